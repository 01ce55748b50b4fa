/- Texts FP FQ FDv FSa of this claim, one behind the other. -/
import Derived.Test.YtpfkeohaaeiaaaaGreatDoorRc4
import Derived.Deep.RegionHeld3
import Derived.Laws.Concat
import Derived.Deep.QuietTactic
import Derived.BigQuiet
import Derived.StillTailTactics
/- Law 13: putRanges: the ranges of an ACK frame. -/
namespace Go.Proofs.YtpfkeohaaeiaaaaGreatDoor.frm
open Go.RowKit
set_option maxRecDepth 100000
/-- a builder of the call's own holds at most m bytes -/
def Bd (B b m : Nat) (w : World) : Prop := ∃ l : List UInt8, Lib.IsBuilder 188 5 B b (Lib.byteCells l) w ∧ l.length ≤ m
theorem BAt.below {B b : Nat} {p : Value} {bs : List Value} {w w' : World} (h : Lib.BuilderAt 188 5 B b p bs w) (hb : Below w.heap.size w w') : Lib.BuilderAt 188 5 B b p bs w' := by
  obtain ⟨h1, v, h2, h3, h4⟩ := h
  refine ⟨h1, v, heap_below hb h2, h3.kept (grown_below (r := none) hb) ?_, h4⟩
  cases hv : v.ownBlock <;> simp
theorem Bd.below {B b m : Nat} {w w' : World} (h : Bd B b m w) (hb : Below w.heap.size w w') : Bd B b m w' := by
  obtain ⟨l, h | h, hl⟩ := h
  · exact ⟨l, .inl (BAt.below h hb), hl⟩
  · exact ⟨l, .inr (BAt.below h hb), hl⟩
theorem Bd.drew {B b m : Nat} {w : World} (h : Bd B b m w) : Bd B b m w.drew := by
  obtain ⟨l, h | h, hl⟩ := h
  · exact ⟨l, .inl h.drew, hl⟩
  · exact ⟨l, .inr h.drew, hl⟩
theorem Bd.new (w : World) : Bd w.heap.size w.heap.size 0 (w.alloc (.cells #[.pointer none, .slice none 0 0] 188)) :=
  ⟨[], .inl ⟨Nat.le_refl _, _, heap_alloc_new w _, World.ownsRow_nil _ _ _ _, by simp [Value.ownBlock]⟩, Nat.le_refl _⟩
theorem Bd.lt {B b m : Nat} {w : World} (h : Bd B b m w) : b < w.heap.size := by
  obtain ⟨l, h | h, _⟩ := h <;> exact h.lt
theorem write_bd (B b m q : Nat) (s : ByteArray) (w : World) (h : Bd B b m w) (hs : s.size ≤ q) (hm : m + q ≤ 100000) (hBw : B ≤ w.heap.size) :
    Calls Tryz.prog 135 #[.pointer (some ⟨b, 0, none⟩), .string s] w fun e w' => e = .returned (.tuple #[.int .i64 s.size, .nilIface]) ∧ Bd B b (m + q) w' ∧ Below B w w' ∧ Apart b w w' := by
  obtain ⟨l, h, hl⟩ := h
  refine (write_any B b _ s w h (by rw [Lib.byteCells_length]; omega) hBw).mono ?_
  rintro e w' ⟨rfl, h1, h2, h3⟩
  refine ⟨rfl, ⟨l ++ s.data.toList, .inr ?_, ?_⟩, h2, h3⟩
  · rw [Lib.byteCells_append]; exact h1
  · have : s.data.toList.length = s.size := by rw [Array.length_toList]; rfl
    rw [List.length_append]; omega
theorem string_bd (B b m : Nat) (w : World) (h : Bd B b m w) (hBw : B ≤ w.heap.size) : Calls Tryz.prog 136 #[.pointer (some ⟨b, 0, none⟩)] w fun e w' => ∃ s : ByteArray, s.size ≤ m ∧ e = .returned (.string s) ∧ Below B w w' := by
  obtain ⟨l, h, hl⟩ := h
  refine (Tryz.Builder_String_any B b l w h hBw).mono ?_
  rintro e w' ⟨rfl, h2⟩
  exact ⟨_, by simpa [ByteArray.size] using hl, rfl, h2⟩
def prv (F : Nat → Int) : Nat → Int
  | 0 => 281474976710658
  | k + 1 => F k
/-- n ranges, descending -/
structure RgOk (n : Nat) (F T : Nat → Int) : Prop where
  lo : 1 ≤ n
  hi : n ≤ 16
  at_ : ∀ k, k < n → 0 ≤ F k ∧ F k < T k ∧ T k ≤ 281474976710656 ∧ T k < prv F k
/-- the slice v holds the n spans -/
def SpansAt (w : World) (v : Value) (n : Nat) (F T : Nat → Int) : Prop := ∃ g o cap, v = .slice (some ⟨g, o, none⟩) n cap ∧ n ≤ cap ∧ cap ≤ maxLen ∧
  ∀ k, k < n → w.cell? ⟨g, o + k * 2, none⟩ = some (.int .i64 (F k)) ∧ w.cell? ⟨g, o + k * 2 + 1, none⟩ = some (.int .i64 (T k))
theorem SpansAt.below {w w' : World} {v : Value} {n : Nat} {F T : Nat → Int} (h : SpansAt w v n F T) (hb : Below w.heap.size w w') : SpansAt w' v n F T := by
  obtain ⟨g, o, cap, h1, h2, h3, h4⟩ := h
  exact ⟨g, o, cap, h1, h2, h3, fun k hk => ⟨(hb.cell (World.block_lt_of_cell? _ _ (h4 k hk).1)).trans (h4 k hk).1, (hb.cell (World.block_lt_of_cell? _ _ (h4 k hk).2)).trans (h4 k hk).2⟩⟩
set_option maxRecDepth 100000 in
set_option maxHeartbeats 4000000 in
theorem putRanges_any (b n : Nat) (F T : Nat → Int) (cs : Array Value) (v : Value) (w : World) (hR : RgOk n F T) (hS : SpansAt w v n F T) (hb : w.heap[b]? = some (.cells cs 56 (0, 0))) (hc : cs[9]? = some v) :
    Calls Tryz.prog 106 #[.pointer (some ⟨b, 0, none⟩)] w (Short w) := by
  obtain ⟨g, o, cap, rfl, hcap, hm, hsp⟩ := hS
  obtain ⟨hn1, hn2, hok⟩ := hR
  have c9 : w.cell? ⟨b, 9, none⟩ = some (.slice (some ⟨g, o, none⟩) n cap) := (cell_whole hb 9).trans hc
  have hbl := heap_lt hb
  have e0 : ((n : Int) = 0) = False := eq_false (by omega)
  have SP := Lib.hid hsp
  have OK := Lib.hid hok
  have HB := Lib.hid hb
  have HC := Lib.hid hc
  unfold maxLen at hm
  clear hsp hok hb hc
  have N0 := Lib.hid (Bd.new w)
  have c9' : (w.alloc (.cells #[.pointer none, .slice none 0 0] 188)).cell? ⟨b, 9, none⟩ = some (.slice (some ⟨g, o, none⟩) n cap) := by
    rw [Below.cell ((Below.refl w.heap.size w).alloc (Nat.le_refl _) _) (p := ⟨b, 9, none⟩) hbl]; exact c9
  have B0 := Lib.hid ((Below.refl w.heap.size w).alloc (Nat.le_refl _) (.cells #[.pointer none, .slice none 0 0] 188))
  go_enter Tryz.func106, Tryz.ntmps106
  go_wp2_with fail
  refine (number_ex _ _ _ (by omega) (by omega) (by omega)).mono ?_
  rintro e w1 ⟨s1, hs1, rfl, hb1⟩
  have N1 := Lib.hid (N0.out.below hb1)
  have B1 := Lib.hid (btrans B0.out hb1)
  have c91 : w1.cell? ⟨b, 9, none⟩ = some (.slice (some ⟨g, o, none⟩) n cap) := by rw [Below.cell B1.out (p := ⟨b, 9, none⟩) hbl]; exact c9
  clear hb1 N0 B0 c9'
  go_wp2_with fail
  refine (write_bd _ _ _ 8 s1 _ N1.out hs1 (by omega) B1.out.size).mono ?_
  rintro e w2 ⟨rfl, hN2, hb2, ha2⟩
  have N2 := Lib.hid hN2
  have B2 := Lib.hid (B1.out.trans hb2)
  have c92 : w2.cell? ⟨b, 9, none⟩ = some (.slice (some ⟨g, o, none⟩) n cap) := by rw [Below.cell B2.out (p := ⟨b, 9, none⟩) hbl]; exact c9
  clear hN2 hb2 ha2 N1 B1 c91 c9 w1
  go_wp2
  go_loopw [4, 28] (fun f i wr => ∃ k : Nat, k ≤ n ∧ i = .int .i64 k ∧ f = .int .i64 (prv F k) ∧ Bd w.heap.size w.heap.size (8 + 16 * k) wr ∧ Below w.heap.size w wr) (fun _ i _ => n - (intOf i).toNat)
  case atStart => exact ⟨0, by omega, rfl, rfl, N2.out, B2.out⟩
  case round =>
    obtain ⟨k, hk, rfl, rfl, hN, hB⟩ := hrel
    have N := Lib.hid hN
    have B := Lib.hid hB
    clear hN hB
    by_cases hlt : k < n
    · obtain ⟨q1, q2, q3, q4⟩ := OK.out k hlt
      have s0 : wr.cell? ⟨g, o + k * 2, none⟩ = some (.int .i64 (F k)) := (B.out.cell (World.block_lt_of_cell? _ _ (SP.out k hlt).1)).trans (SP.out k hlt).1
      have s1 : wr.cell? ⟨g, o + k * 2 + 1, none⟩ = some (.int .i64 (T k)) := (B.out.cell (World.block_lt_of_cell? _ _ (SP.out k hlt).2)).trans (SP.out k hlt).2
      have p0 : 0 < prv F k := by omega
      have g1 : ¬ (F k < 0) := by omega
      have g2 : ¬ (281474976710656 < T k) := by omega
      have g3 : ¬ (prv F k ≤ T k) := by omega
      have g4 : prv F k ≤ 281474976710658 := by
        cases k with
        | zero => exact Int.le_refl _
        | succ m => have := OK.out m (by omega); show F m ≤ _; omega
      have X := Lib.hid (box1 wr (.cells #[.int .i64 (F k), .int .i64 (T k)] 103))
      have NX := Lib.hid (N.out.below X.out.2.1)
      have BX := Lib.hid (btrans B.out X.out.2.1)
      have PS := Lib.hid (show prv F (k + 1) = F k from rfl)
      rcases Nat.eq_zero_or_pos k with hk0 | hk0
      · subst hk0
        rw [Nat.zero_mul, Nat.add_zero] at s0 s1
        have HS := Lib.hid (show ∀ w', Apart w.heap.size (wr.alloc (.cells #[.int .i64 (F 0), .int .i64 (T 0)] 103)) w' → (w'.cell? ⟨wr.heap.size, 0, none⟩ = some (.int .i64 (F 0)) ∧ w'.cell? ⟨wr.heap.size, 1, none⟩ = some (.int .i64 (T 0))) from
          fun w' h => ⟨at_whole (h _ _ _ _ X.out.1 (by have := B.out.size; have := N.out.lt; omega) (by decide)) 0 rfl, at_whole (h _ _ _ _ X.out.1 (by have := N.out.lt; omega) (by decide)) 1 rfl⟩)
        have W1 : IntKind.i64.wrap (T 0 - F 0) = T 0 - F 0 := IntWalk.i64_in _ (by omega)
        have W2 : IntKind.i64.wrap (T 0 - F 0 - 1) = T 0 - F 0 - 1 := IntWalk.i64_in _ (by omega)
        go_wp2
        generalize wr.alloc (.cells #[.int .i64 (F 0), .int .i64 (T 0)] 103) = V at X NX BX HS ⊢
        have t1 := Lib.hid True.intro
        go_region_held3 (fun w' => w'.cell? ⟨wr.heap.size, 0, none⟩ = some (.int .i64 (F 0)) ∧ w'.cell? ⟨wr.heap.size, 1, none⟩ = some (.int .i64 (T 0)))
          (first | exact HS.out _ (Apart.below (Below.refl V.heap.size V).drew) | exact HS.out _ (Apart.below (below_drew hb1)) | exact HS.out _ (Apart.below (btrans (below_drew hb1) hb2)) | exact HS.out _ ((Apart.below (btrans (below_drew hb1) hb2)).trans ha3))
          (first | (go_at_call 124; have t2 := t1.out; clear t1; refine (number_ex _ _ _ (by omega) (by omega) (by omega)).mono ?_; rintro e w1 ⟨s1, hs1, rfl, hb1⟩) | (go_at_call 124; refine (number_ex _ _ _ (by omega) (by omega) (by omega)).mono ?_; rintro e w2 ⟨s2, hs2, rfl, hb2⟩; have z2 : (9223372036854775807 < s1.size + s2.size) = False := eq_false (by omega)) | (go_at_call 135; refine (write_bd _ _ _ 16 _ _ ((NX.out.drew.below hb1).below hb2) (by rw [ByteArray.size_append]; omega) (by omega) (Nat.le_trans BX.out.size (btrans (below_drew hb1) hb2).size)).mono ?_; rintro e w3 ⟨rfl, hB3, hb3, ha3⟩))
        have y0 := (HS.out _ ((Apart.below (btrans (below_drew hb1) hb2)).trans ha3)).1
        have NN := Lib.hid hB3
        have BB := Lib.hid ((BX.out.trans ((btrans (below_drew hb1) hb2).mono BX.out.size)).trans hb3)
        clear hB3 hb3 ha3 hb1 hb2 z2
        go_wp2
        go_roundw
        case rel => exact ⟨0 + 1, by omega, by go_num, by rw [PS.out], by have := NN.out; rwa [show 8 + 16 * 0 + 16 = 8 + 16 * (0 + 1) by omega] at this, BB.out⟩
        case measure => simp [intOf]; omega
      · have hk1 : (0 : Int) < (k : Int) := by omega
        have g5 : IntKind.i64.wrap (prv F k - T k) = prv F k - T k := IntWalk.i64_in _ (by omega)
        have g6 : IntKind.i64.wrap (prv F k - T k - 1) = prv F k - T k - 1 := IntWalk.i64_in _ (by omega)
        have HS := Lib.hid (show ∀ w', Apart w.heap.size (wr.alloc (.cells #[.int .i64 (F k), .int .i64 (T k)] 103)) w' → (w'.cell? ⟨wr.heap.size, 0, none⟩ = some (.int .i64 (F k)) ∧ w'.cell? ⟨wr.heap.size, 1, none⟩ = some (.int .i64 (T k))) from
          fun w' h => ⟨at_whole (h _ _ _ _ X.out.1 (by have := B.out.size; have := N.out.lt; omega) (by decide)) 0 rfl, at_whole (h _ _ _ _ X.out.1 (by have := N.out.lt; omega) (by decide)) 1 rfl⟩)
        have W1 : IntKind.i64.wrap (T k - F k) = T k - F k := IntWalk.i64_in _ (by omega)
        have W2 : IntKind.i64.wrap (T k - F k - 1) = T k - F k - 1 := IntWalk.i64_in _ (by omega)
        go_wp2
        generalize wr.alloc (.cells #[.int .i64 (F k), .int .i64 (T k)] 103) = V at X NX BX HS ⊢
        have t1 := Lib.hid True.intro
        go_region_held3 (fun w' => w'.cell? ⟨wr.heap.size, 0, none⟩ = some (.int .i64 (F k)) ∧ w'.cell? ⟨wr.heap.size, 1, none⟩ = some (.int .i64 (T k)))
          (first | exact HS.out _ (Apart.below (Below.refl V.heap.size V).drew) | exact HS.out _ (Apart.below (below_drew hb1)) | exact HS.out _ (Apart.below (btrans (below_drew hb1) hb2)) | exact HS.out _ ((Apart.below (btrans (below_drew hb1) hb2)).trans ha3))
          (first | (go_at_call 124; have t2 := t1.out; clear t1; refine (number_ex _ _ _ (by omega) (by omega) (by omega)).mono ?_; rintro e w1 ⟨s1, hs1, rfl, hb1⟩) | (go_at_call 124; refine (number_ex _ _ _ (by omega) (by omega) (by omega)).mono ?_; rintro e w2 ⟨s2, hs2, rfl, hb2⟩; have z2 : (9223372036854775807 < s1.size + s2.size) = False := eq_false (by omega)) | (go_at_call 135; refine (write_bd _ _ _ 16 _ _ ((NX.out.drew.below hb1).below hb2) (by rw [ByteArray.size_append]; omega) (by omega) (Nat.le_trans BX.out.size (btrans (below_drew hb1) hb2).size)).mono ?_; rintro e w3 ⟨rfl, hB3, hb3, ha3⟩))
        have y0 := (HS.out _ ((Apart.below (btrans (below_drew hb1) hb2)).trans ha3)).1
        have NN := Lib.hid hB3
        have BB := Lib.hid ((BX.out.trans ((btrans (below_drew hb1) hb2).mono BX.out.size)).trans hb3)
        clear hB3 hb3 ha3 hb1 hb2 z2
        go_wp2
        go_roundw
        case rel => exact ⟨k + 1, by omega, by go_num, by rw [PS.out], by have := NN.out; rwa [show 8 + 16 * k + 16 = 8 + 16 * (k + 1) by omega] at this, BB.out⟩
        case measure => simp [intOf]; omega
    · obtain rfl : k = n := by omega
      clear hlt
      go_wp2_with (go_at_call 136; refine (string_bd _ _ _ _ N.out B.out.size).mono ?_; rintro e w' ⟨s, hs, rfl, hb⟩)
      go_ret
      exact ⟨s, by omega, rfl, B.out.trans hb⟩
end Go.Proofs.YtpfkeohaaeiaaaaGreatDoor.frm
/- Law 13: a frame's parts looked up; Same at two bare ACK frames. -/
namespace Go.Proofs.YtpfkeohaaeiaaaaGreatDoor.frm
open Go.RowKit Go.Maps
set_option maxRecDepth 100000
theorem has_of_atKey {D : DataW Value} {k : Lit} {z u : Value} (h : D.atKey k (.held z) = .held u) (hu : u ≠ z) : Maps.has D k = true ∧ ∀ z', D.atKey k (.held z') = .held u := by
  unfold DataW.atKey at h ⊢
  unfold Maps.has
  cases D <;> simp only [DataW.held.injEq] at h <;> try exact absurd h.symm hu
  rename_i es
  cases hf : es.find? (fun p => p.1.sameKey k) with
  | none => rw [hf] at h; simp only [DataW.held.injEq] at h; exact absurd h.symm hu
  | some p =>
    rw [hf] at h
    refine ⟨?_, fun z' => by simp only [hf]; exact h⟩
    simp only
    exact List.any_eq_true.2 ⟨p, List.mem_of_find?_eq_some hf, by simpa using List.find?_some hf⟩
theorem row10 : rows[10]? = some (none, .ins 2 31) := by kernel_rfl
theorem row9 : rows[ix 31]? = some (some 31, .sl [29, 30]) := by kernel_rfl
theorem row29 : rows[ix 29]? = some (some 29, .ld 7) := by kernel_rfl
theorem row30 : rows[ix 30]? = some (some 30, .ld 12) := by kernel_rfl
theorem key2 : keyOf Tryz.prog 3 (.int .i64 2) = some (.int .i64 2) := Maps.keyOf_int_mk Tryz.underlying3 (by decide)
/-- the parts of an ACK frame -/
theorem ack_row {w0 w : World} {bx : Nat → Array Value} {L : Nat → Bool} {M : Nat} (h : Mp w0 bx L (.map (some M)) w) (hL : ∀ i, i < 78 → L i = true) :
    ∃ g cs, w.heap[g]? = some (.cells cs 141 (0, 0)) ∧ cs = bx 7 ++ bx 12 ∧ (bx 7).size = 3 ∧ (bx 12).size = 3 ∧ (Instr.lookup 135 (.map (some M)) (.int .i64 2) true).run Tryz.prog w = .ok (.tuple #[.slice (some ⟨g, 0, none⟩) 2 2, .bool true]) w := by
  obtain ⟨M', n, D, h1, h2, h3, h4, h5, h6⟩ := h
  cases h1
  obtain ⟨u, s, e1, e2, e3⟩ := h6 10 2 31 row10 (hL 10 (by decide))
  rw [row9] at e2
  cases e2
  obtain ⟨g, cs, rfl, hg, hp⟩ := e3
  obtain ⟨c1, c2, s1, rfl, z1, r1, p1, hp⟩ := hp
  rw [row29] at r1; cases r1
  obtain ⟨c3, c4, s2, rfl, z2, r2, p2, hp⟩ := hp
  rw [row30] at r2; cases r2
  cases hp
  cases p1; cases p2
  obtain ⟨hh, hz⟩ := has_of_atKey e1 (by simp [undef])
  have := h2.look_ok (t := 135) (e := 134) (K := Maps.int_keyed Tryz.underlying3) Tryz.underlying135 (Tryz.zeroValue134 w) key2 (hz _)
  rw [hh] at this
  exact ⟨g, _, hg, by simp, z1, z2, this⟩
def ackE (d : Int) (rv : Value) : Array Value := #[.int .i64 2, .int .i64 0, .int .i64 0, .string ⟨#[]⟩, .bool false, .int .i64 0, .int .i64 0, .bool false, .int .i64 d, rv, .int .i64 0, .int .i64 0, .string ⟨#[]⟩]
set_option maxRecDepth 100000 in
set_option maxHeartbeats 2000000 in
theorem equal_nil (w : World) : Calls Tryz.prog 122 #[.slice none 0 0, .slice none 0 0] w fun e w' => e = .returned (.bool true) ∧ w = w' := by
  go_enter Tryz.func122, Tryz.ntmps122
  go_wp2
  refine wp_loop_rounds 1 ?_
  rw [rounds_succ]
  go_wp2
  go_ret
  exact ⟨rfl, rfl⟩
set_option maxRecDepth 100000 in
set_option maxHeartbeats 4000000 in
theorem same_ack (w : World) : Calls Tryz.prog 93 #[.agg (ackE 0 (.slice none 0 0)), .agg (ackE 0 (.slice none 0 0))] w fun e w' => e = .returned (.bool true) ∧ Below w.heap.size w w' := by
  unfold ackE
  have c := box2 w (.cells #[.int .i64 2, .int .i64 0, .int .i64 0, .string ⟨#[]⟩, .bool false, .int .i64 0, .int .i64 0, .bool false, .int .i64 0, .slice none 0 0, .int .i64 0, .int .i64 0, .string ⟨#[]⟩] 56) (.cells #[.int .i64 2, .int .i64 0, .int .i64 0, .string ⟨#[]⟩, .bool false, .int .i64 0, .int .i64 0, .bool false, .int .i64 0, .slice none 0 0, .int .i64 0, .int .i64 0, .string ⟨#[]⟩] 56)
  have C := Lib.hid c
  clear c
  go_enter Tryz.func93, Tryz.ntmps93
  go_wp2_with (go_at_call 122; refine (equal_nil _).mono ?_; rintro e w' ⟨rfl, rfl⟩)
  go_ret
  exact ⟨rfl, C.out.2.2.1⟩
end Go.Proofs.YtpfkeohaaeiaaaaGreatDoor.frm
/- varint.Decode, and that it reads what Encode writes. Printed by gen/mkDv.py. -/
namespace Go.Proofs.YtpfkeohaaeiaaaaGreatDoor.frm
open Go.RowKit
set_option maxRecDepth 100000
def wid (n : Int) : Int := if cls n < 0 then 0 else 2 ^ (cls n).toNat
set_option maxRecDepth 100000 in
set_option maxHeartbeats 2000000 in
theorem read_any (s : ByteArray) (a k : Nat) (w : World) (h : a + k ≤ s.size) (hs : s.size ≤ maxLen) (hk : k ≤ 8) :
    Calls Tryz.prog 173 #[.string s, .int .i64 a, .int .i64 k] w fun e w' => e = .returned (.int .u64 (beN (((bytesOf s).drop a).take k))) ∧ w = w' := by
  unfold maxLen at hs
  go_enter Tryz.func173, Tryz.ntmps173
  go_wp2
  go_loop [7, 10] (fun n i => ∃ j : Nat, j ≤ k ∧ i = .int .i64 j ∧ n = .int .u64 (beN (((bytesOf s).drop a).take j))) (fun _ i => k - (intOf i).toNat)
  case atStart => exact ⟨0, Nat.zero_le _, rfl, rfl⟩
  case round =>
    obtain ⟨j, hj, rfl, rfl⟩ := hrel
    by_cases hlt : j < k
    · have hw1 : IntKind.i64.wrap ((a : Int) + (j : Int)) = (a : Int) + (j : Int) := IntWalk.i64_in _ (by omega)
      have g0 : 0 ≤ (a : Int) + (j : Int) := by omega
      have g1 : ((a : Int) + (j : Int)).toNat = a + j := by omega
      have g2 : (a : Int) + (j : Int) < (s.size : Int) := by omega
      have g3 : a + j < s.size := by omega
      obtain ⟨v, hv⟩ : ∃ v, beN (((bytesOf s).drop a).take j) = v := ⟨_, rfl⟩
      rw [hv]
      have HV := Lib.hid hv
      clear hv
      have hst : ((bytesOf s).drop a).take (j + 1) = ((bytesOf s).drop a).take j ++ [((s[a + j]'g3).toNat : Int)] := by
        have := bytesOf_at s (a + j) g3
        have hl : j < ((bytesOf s).drop a).length := by rw [List.length_drop, bytesOf_length]; omega
        rw [List.take_succ_eq_append_getElem hl]
        congr 2
        rw [List.getElem_drop]
        rw [List.getElem?_eq_getElem (by rw [bytesOf_length]; exact g3)] at this
        exact Option.some.inj this
      have hb := bytesOf_range s _ (List.mem_of_getElem? (bytesOf_at s (a + j) g3))
      have hvb := beN_bound (((bytesOf s).drop a).take j) (fun x hx => bytesOf_range s x (List.mem_of_mem_drop (List.mem_of_mem_take hx)))
      rw [HV.out] at hvb
      have hlen : (((bytesOf s).drop a).take j).length = j := by rw [List.length_take, List.length_drop, bytesOf_length]; omega
      rw [hlen] at hvb
      have hp := p256 (show j ≤ 7 by omega)
      have HO := Lib.hid (or_byte v _ hvb.1 (Int.lt_of_lt_of_le hvb.2 hp) hb.1 hb.2)
      have HS : Hid (beN (((bytesOf s).drop a).take (j + 1)) = v * 256 + ((s[a + j]'g3).toNat : Int)) := Lib.hid (by rw [hst, beN_snoc, HV.out])
      clear hst hb hvb hlen hp
      go_wp2
      go_round
      case rel => exact ⟨j + 1, by omega, by simp, by rw [HS.out, HO.out]⟩
      case measure => simp [intOf]; omega
    · obtain rfl : j = k := by omega
      clear hlt
      go_wp2
      go_ret
      exact ⟨rfl, rfl⟩
def decV (l : List Int) (a : Int) : Int × Int × Int :=
  if a < 0 ∨ (l.length : Int) < a then (0, 0, 2)
  else if a = l.length then (0, 0, 11)
  else
    let c := (l[a.toNat]?.getD 0) / 64
    let k : Nat := 2 ^ c.toNat
    if (l.length : Int) - a < k then (0, 0, 11)
    else
      let n := beN ((l.drop a.toNat).take k) % (2 ^ (8 * k - 2))
      if cls n = c then (n, a + k, 0) else (0, 0, 10)
def trip (t : Int × Int × Int) : Value := .tuple #[.int .i64 t.1, .int .i64 t.2.1, .int .i64 t.2.2]
theorem decode_out (s : ByteArray) (a : Int) (w : World) (ha : a < 0 ∨ (s.size : Int) < a ∨ a = s.size) :
    Calls Tryz.prog 161 #[.string s, .int .i64 a] w fun e w' => e = .returned (trip (decV (bytesOf s) a)) ∧ Below w.heap.size w w' := by
  have hc : a < 0 ∨ (0 ≤ a ∧ (s.size : Int) < a) ∨ (0 ≤ a ∧ a = s.size) := by omega
  clear ha
  rcases hc with h | ⟨h0, h⟩ | ⟨h0, h⟩
  · have E : Hid (decV (bytesOf s) a = (0, 0, 2)) := Lib.hid (by unfold decV; rw [if_pos (.inl h)])
    go_enter Tryz.func161, Tryz.ntmps161
    go_wp2
    go_returns
    exact ⟨by rw [E.out]; rfl, Below.refl _ _⟩
  · have E : Hid (decV (bytesOf s) a = (0, 0, 2)) := Lib.hid (by unfold decV; rw [if_pos (.inr (by rw [bytesOf_length]; exact h))])
    go_enter Tryz.func161, Tryz.ntmps161
    go_wp2
    go_returns
    exact ⟨by rw [E.out]; rfl, Below.refl _ _⟩
  · have E : Hid (decV (bytesOf s) a = (0, 0, 11)) := Lib.hid (by unfold decV; rw [bytesOf_length, if_neg (by omega), if_pos h])
    subst h
    go_enter Tryz.func161, Tryz.ntmps161
    go_wp2
    go_returns
    exact ⟨by rw [E.out]; rfl, Below.refl _ _⟩
theorem and_mask (N : Int) (m : Nat) (h0 : 0 ≤ N) (h1 : N < 18446744073709551616) (hm : m ≤ 62) : bits .and .u64 N ((2 ^ m - 1 : Nat) : Int) = N % ((2 ^ m : Nat) : Int) := by
  obtain ⟨n, rfl⟩ := Int.eq_ofNat_of_zero_le h0
  have hp : 2 ^ m ≤ 2 ^ 62 := Nat.pow_le_pow_right (by decide) hm
  have h62 : (2 : Nat) ^ 62 = 4611686018427387904 := by decide
  rw [u64_and_nat _ _ (by omega) (by omega), Nat.and_two_pow_sub_one_eq_mod]
  simp
set_option maxRecDepth 100000 in
set_option maxHeartbeats 4000000 in
theorem decode_c0 (s : ByteArray) (a : Nat) (w : World) (ha : a < s.size) (hs : s.size ≤ maxLen) (hc : (((s[a]'ha).toNat : Int)) / 64 = 0) :
    Calls Tryz.prog 161 #[.string s, .int .i64 a] w fun e w' => e = .returned (trip (decV (bytesOf s) a)) ∧ Below w.heap.size w w' := by
  have hat := bytesOf_at s a ha
  have E0 : decV (bytesOf s) a = if (s.size : Int) - a < 1 then (0, 0, 11) else if cls (beN (((bytesOf s).drop a).take 1) % 64) = 0 then (beN (((bytesOf s).drop a).take 1) % 64, (a : Int) + 1, 0) else (0, 0, 10) := by
    unfold decV
    rw [bytesOf_length, if_neg (by omega), if_neg (by omega), Int.toNat_natCast, hat, Option.getD_some, hc]
    rfl
  have hs0 := hs
  unfold maxLen at hs
  by_cases hsh : (s.size : Int) - a < 1
  · have E : Hid (decV (bytesOf s) a = (0, 0, 11)) := Lib.hid (by rw [E0, if_pos hsh])
    clear E0 hat
    first
      | (exfalso; omega)
      | (go_enter Tryz.func161, Tryz.ntmps161
         go_wp2
         go_returns
         exact ⟨by rw [E.out]; rfl, Below.refl _ _⟩)
  · rw [if_neg hsh] at E0
    have RD := Lib.hid (fun n => (read_any s a 1 (w.drewN n) (by omega) hs0 (by decide)).mono (fun e w' h => (⟨h.1, h.2.symm⟩ : e = _ ∧ w' = _)))
    have hvb := beN_bound (((bytesOf s).drop a).take 1) (fun x hx => bytesOf_range s x (List.mem_of_mem_drop (List.mem_of_mem_take hx)))
    have hlen : (((bytesOf s).drop a).take 1).length = 1 := by rw [List.length_take, List.length_drop, bytesOf_length]; omega
    rw [hlen] at hvb
    generalize beN (((bytesOf s).drop a).take 1) = N at *
    have hp : (256 : Int) ^ 1 = 256 := by decide
    rw [hp] at hvb
    have hM : bits .and .u64 N 63 = N % 64 := and_mask N 6 hvb.1 (by omega) (by decide)
    have hn : 0 ≤ N % 64 ∧ N % 64 < 64 := ⟨Int.emod_nonneg _ (by decide), Int.emod_lt_of_pos _ (by decide)⟩
    obtain ⟨n, hnn⟩ : ∃ n, N % 64 = n := ⟨_, rfl⟩
    rw [hnn] at hM hn E0
    have hw : IntKind.i64.wrap n = n := IntWalk.i64_in _ (by omega)
    have hwa : IntKind.i64.wrap ((a : Int) + 1) = (a : Int) + 1 := IntWalk.i64_in _ (by omega)
    have CL := Lib.hid (fun (wx : World) => class_any n wx)
    have HE := Lib.hid E0
    clear E0 hat hp hlen hnn
    by_cases hcl : cls n = 0
    · have E : Hid (decV (bytesOf s) a = (n, (a : Int) + 1, 0)) := Lib.hid (by rw [HE.out, if_pos hcl])
      rw [hcl] at CL
      clear hcl
      go_enter Tryz.func161, Tryz.ntmps161
      go_wp2
      go_quiet ((go_at_call 173; exact Calls.quiet_of_same (RD.out _)))
      go_wp2_with (go_at_call 170; refine (CL.out _).mono ?_; rintro e w' ⟨rfl, hb⟩)
      go_returns
      exact ⟨by rw [E.out]; rfl, ⟨hb.os, hb.tape, hb.output, hb.size, hb.block⟩⟩
    · have E : Hid (decV (bytesOf s) a = (0, 0, 10)) := Lib.hid (by rw [HE.out, if_neg hcl])
      have hb1 : (cls n == 0) = false := by simp [hcl]
      have hb2 : (cls n != 0) = true := by simp [hcl]
      clear hcl
      go_enter Tryz.func161, Tryz.ntmps161
      go_wp2
      go_quiet ((go_at_call 173; exact Calls.quiet_of_same (RD.out _)))
      go_wp2_with (go_at_call 170; refine (CL.out _).mono ?_; rintro e w' ⟨rfl, hb⟩)
      go_returns
      exact ⟨by rw [E.out]; rfl, ⟨hb.os, hb.tape, hb.output, hb.size, hb.block⟩⟩
set_option maxRecDepth 100000 in
set_option maxHeartbeats 4000000 in
theorem decode_c1 (s : ByteArray) (a : Nat) (w : World) (ha : a < s.size) (hs : s.size ≤ maxLen) (hc : (((s[a]'ha).toNat : Int)) / 64 = 1) :
    Calls Tryz.prog 161 #[.string s, .int .i64 a] w fun e w' => e = .returned (trip (decV (bytesOf s) a)) ∧ Below w.heap.size w w' := by
  have hat := bytesOf_at s a ha
  have E0 : decV (bytesOf s) a = if (s.size : Int) - a < 2 then (0, 0, 11) else if cls (beN (((bytesOf s).drop a).take 2) % 16384) = 1 then (beN (((bytesOf s).drop a).take 2) % 16384, (a : Int) + 2, 0) else (0, 0, 10) := by
    unfold decV
    rw [bytesOf_length, if_neg (by omega), if_neg (by omega), Int.toNat_natCast, hat, Option.getD_some, hc]
    rfl
  have hs0 := hs
  unfold maxLen at hs
  by_cases hsh : (s.size : Int) - a < 2
  · have E : Hid (decV (bytesOf s) a = (0, 0, 11)) := Lib.hid (by rw [E0, if_pos hsh])
    clear E0 hat
    first
      | (exfalso; omega)
      | (go_enter Tryz.func161, Tryz.ntmps161
         go_wp2
         go_returns
         exact ⟨by rw [E.out]; rfl, Below.refl _ _⟩)
  · rw [if_neg hsh] at E0
    have RD := Lib.hid (fun n => (read_any s a 2 (w.drewN n) (by omega) hs0 (by decide)).mono (fun e w' h => (⟨h.1, h.2.symm⟩ : e = _ ∧ w' = _)))
    have hvb := beN_bound (((bytesOf s).drop a).take 2) (fun x hx => bytesOf_range s x (List.mem_of_mem_drop (List.mem_of_mem_take hx)))
    have hlen : (((bytesOf s).drop a).take 2).length = 2 := by rw [List.length_take, List.length_drop, bytesOf_length]; omega
    rw [hlen] at hvb
    generalize beN (((bytesOf s).drop a).take 2) = N at *
    have hp : (256 : Int) ^ 2 = 65536 := by decide
    rw [hp] at hvb
    have hM : bits .and .u64 N 16383 = N % 16384 := and_mask N 14 hvb.1 (by omega) (by decide)
    have hn : 0 ≤ N % 16384 ∧ N % 16384 < 16384 := ⟨Int.emod_nonneg _ (by decide), Int.emod_lt_of_pos _ (by decide)⟩
    obtain ⟨n, hnn⟩ : ∃ n, N % 16384 = n := ⟨_, rfl⟩
    rw [hnn] at hM hn E0
    have hw : IntKind.i64.wrap n = n := IntWalk.i64_in _ (by omega)
    have hwa : IntKind.i64.wrap ((a : Int) + 2) = (a : Int) + 2 := IntWalk.i64_in _ (by omega)
    have CL := Lib.hid (fun (wx : World) => class_any n wx)
    have HE := Lib.hid E0
    clear E0 hat hp hlen hnn
    by_cases hcl : cls n = 1
    · have E : Hid (decV (bytesOf s) a = (n, (a : Int) + 2, 0)) := Lib.hid (by rw [HE.out, if_pos hcl])
      rw [hcl] at CL
      clear hcl
      go_enter Tryz.func161, Tryz.ntmps161
      go_wp2
      go_quiet ((go_at_call 173; exact Calls.quiet_of_same (RD.out _)))
      go_wp2_with (go_at_call 170; refine (CL.out _).mono ?_; rintro e w' ⟨rfl, hb⟩)
      go_returns
      exact ⟨by rw [E.out]; rfl, ⟨hb.os, hb.tape, hb.output, hb.size, hb.block⟩⟩
    · have E : Hid (decV (bytesOf s) a = (0, 0, 10)) := Lib.hid (by rw [HE.out, if_neg hcl])
      have hb1 : (cls n == 1) = false := by simp [hcl]
      have hb2 : (cls n != 1) = true := by simp [hcl]
      clear hcl
      go_enter Tryz.func161, Tryz.ntmps161
      go_wp2
      go_quiet ((go_at_call 173; exact Calls.quiet_of_same (RD.out _)))
      go_wp2_with (go_at_call 170; refine (CL.out _).mono ?_; rintro e w' ⟨rfl, hb⟩)
      go_returns
      exact ⟨by rw [E.out]; rfl, ⟨hb.os, hb.tape, hb.output, hb.size, hb.block⟩⟩
set_option maxRecDepth 100000 in
set_option maxHeartbeats 4000000 in
theorem decode_c2 (s : ByteArray) (a : Nat) (w : World) (ha : a < s.size) (hs : s.size ≤ maxLen) (hc : (((s[a]'ha).toNat : Int)) / 64 = 2) :
    Calls Tryz.prog 161 #[.string s, .int .i64 a] w fun e w' => e = .returned (trip (decV (bytesOf s) a)) ∧ Below w.heap.size w w' := by
  have hat := bytesOf_at s a ha
  have E0 : decV (bytesOf s) a = if (s.size : Int) - a < 4 then (0, 0, 11) else if cls (beN (((bytesOf s).drop a).take 4) % 1073741824) = 2 then (beN (((bytesOf s).drop a).take 4) % 1073741824, (a : Int) + 4, 0) else (0, 0, 10) := by
    unfold decV
    rw [bytesOf_length, if_neg (by omega), if_neg (by omega), Int.toNat_natCast, hat, Option.getD_some, hc]
    rfl
  have hs0 := hs
  unfold maxLen at hs
  by_cases hsh : (s.size : Int) - a < 4
  · have E : Hid (decV (bytesOf s) a = (0, 0, 11)) := Lib.hid (by rw [E0, if_pos hsh])
    clear E0 hat
    first
      | (exfalso; omega)
      | (go_enter Tryz.func161, Tryz.ntmps161
         go_wp2
         go_returns
         exact ⟨by rw [E.out]; rfl, Below.refl _ _⟩)
  · rw [if_neg hsh] at E0
    have RD := Lib.hid (fun n => (read_any s a 4 (w.drewN n) (by omega) hs0 (by decide)).mono (fun e w' h => (⟨h.1, h.2.symm⟩ : e = _ ∧ w' = _)))
    have hvb := beN_bound (((bytesOf s).drop a).take 4) (fun x hx => bytesOf_range s x (List.mem_of_mem_drop (List.mem_of_mem_take hx)))
    have hlen : (((bytesOf s).drop a).take 4).length = 4 := by rw [List.length_take, List.length_drop, bytesOf_length]; omega
    rw [hlen] at hvb
    generalize beN (((bytesOf s).drop a).take 4) = N at *
    have hp : (256 : Int) ^ 4 = 4294967296 := by decide
    rw [hp] at hvb
    have hM : bits .and .u64 N 1073741823 = N % 1073741824 := and_mask N 30 hvb.1 (by omega) (by decide)
    have hn : 0 ≤ N % 1073741824 ∧ N % 1073741824 < 1073741824 := ⟨Int.emod_nonneg _ (by decide), Int.emod_lt_of_pos _ (by decide)⟩
    obtain ⟨n, hnn⟩ : ∃ n, N % 1073741824 = n := ⟨_, rfl⟩
    rw [hnn] at hM hn E0
    have hw : IntKind.i64.wrap n = n := IntWalk.i64_in _ (by omega)
    have hwa : IntKind.i64.wrap ((a : Int) + 4) = (a : Int) + 4 := IntWalk.i64_in _ (by omega)
    have CL := Lib.hid (fun (wx : World) => class_any n wx)
    have HE := Lib.hid E0
    clear E0 hat hp hlen hnn
    by_cases hcl : cls n = 2
    · have E : Hid (decV (bytesOf s) a = (n, (a : Int) + 4, 0)) := Lib.hid (by rw [HE.out, if_pos hcl])
      rw [hcl] at CL
      clear hcl
      go_enter Tryz.func161, Tryz.ntmps161
      go_wp2
      go_quiet ((go_at_call 173; exact Calls.quiet_of_same (RD.out _)))
      go_wp2_with (go_at_call 170; refine (CL.out _).mono ?_; rintro e w' ⟨rfl, hb⟩)
      go_returns
      exact ⟨by rw [E.out]; rfl, ⟨hb.os, hb.tape, hb.output, hb.size, hb.block⟩⟩
    · have E : Hid (decV (bytesOf s) a = (0, 0, 10)) := Lib.hid (by rw [HE.out, if_neg hcl])
      have hb1 : (cls n == 2) = false := by simp [hcl]
      have hb2 : (cls n != 2) = true := by simp [hcl]
      clear hcl
      go_enter Tryz.func161, Tryz.ntmps161
      go_wp2
      go_quiet ((go_at_call 173; exact Calls.quiet_of_same (RD.out _)))
      go_wp2_with (go_at_call 170; refine (CL.out _).mono ?_; rintro e w' ⟨rfl, hb⟩)
      go_returns
      exact ⟨by rw [E.out]; rfl, ⟨hb.os, hb.tape, hb.output, hb.size, hb.block⟩⟩
set_option maxRecDepth 100000 in
set_option maxHeartbeats 4000000 in
theorem decode_c3 (s : ByteArray) (a : Nat) (w : World) (ha : a < s.size) (hs : s.size ≤ maxLen) (hc : (((s[a]'ha).toNat : Int)) / 64 = 3) :
    Calls Tryz.prog 161 #[.string s, .int .i64 a] w fun e w' => e = .returned (trip (decV (bytesOf s) a)) ∧ Below w.heap.size w w' := by
  have hat := bytesOf_at s a ha
  have E0 : decV (bytesOf s) a = if (s.size : Int) - a < 8 then (0, 0, 11) else if cls (beN (((bytesOf s).drop a).take 8) % 4611686018427387904) = 3 then (beN (((bytesOf s).drop a).take 8) % 4611686018427387904, (a : Int) + 8, 0) else (0, 0, 10) := by
    unfold decV
    rw [bytesOf_length, if_neg (by omega), if_neg (by omega), Int.toNat_natCast, hat, Option.getD_some, hc]
    rfl
  have hs0 := hs
  unfold maxLen at hs
  by_cases hsh : (s.size : Int) - a < 8
  · have E : Hid (decV (bytesOf s) a = (0, 0, 11)) := Lib.hid (by rw [E0, if_pos hsh])
    clear E0 hat
    first
      | (exfalso; omega)
      | (go_enter Tryz.func161, Tryz.ntmps161
         go_wp2
         go_returns
         exact ⟨by rw [E.out]; rfl, Below.refl _ _⟩)
  · rw [if_neg hsh] at E0
    have RD := Lib.hid (fun n => (read_any s a 8 (w.drewN n) (by omega) hs0 (by decide)).mono (fun e w' h => (⟨h.1, h.2.symm⟩ : e = _ ∧ w' = _)))
    have hvb := beN_bound (((bytesOf s).drop a).take 8) (fun x hx => bytesOf_range s x (List.mem_of_mem_drop (List.mem_of_mem_take hx)))
    have hlen : (((bytesOf s).drop a).take 8).length = 8 := by rw [List.length_take, List.length_drop, bytesOf_length]; omega
    rw [hlen] at hvb
    generalize beN (((bytesOf s).drop a).take 8) = N at *
    have hp : (256 : Int) ^ 8 = 18446744073709551616 := by decide
    rw [hp] at hvb
    have hM : bits .and .u64 N 4611686018427387903 = N % 4611686018427387904 := and_mask N 62 hvb.1 (by omega) (by decide)
    have hn : 0 ≤ N % 4611686018427387904 ∧ N % 4611686018427387904 < 4611686018427387904 := ⟨Int.emod_nonneg _ (by decide), Int.emod_lt_of_pos _ (by decide)⟩
    obtain ⟨n, hnn⟩ : ∃ n, N % 4611686018427387904 = n := ⟨_, rfl⟩
    rw [hnn] at hM hn E0
    have hw : IntKind.i64.wrap n = n := IntWalk.i64_in _ (by omega)
    have hwa : IntKind.i64.wrap ((a : Int) + 8) = (a : Int) + 8 := IntWalk.i64_in _ (by omega)
    have CL := Lib.hid (fun (wx : World) => class_any n wx)
    have HE := Lib.hid E0
    clear E0 hat hp hlen hnn
    by_cases hcl : cls n = 3
    · have E : Hid (decV (bytesOf s) a = (n, (a : Int) + 8, 0)) := Lib.hid (by rw [HE.out, if_pos hcl])
      rw [hcl] at CL
      clear hcl
      go_enter Tryz.func161, Tryz.ntmps161
      go_wp2
      go_quiet ((go_at_call 173; exact Calls.quiet_of_same (RD.out _)))
      go_wp2_with (go_at_call 170; refine (CL.out _).mono ?_; rintro e w' ⟨rfl, hb⟩)
      go_returns
      exact ⟨by rw [E.out]; rfl, ⟨hb.os, hb.tape, hb.output, hb.size, hb.block⟩⟩
    · have E : Hid (decV (bytesOf s) a = (0, 0, 10)) := Lib.hid (by rw [HE.out, if_neg hcl])
      have hb1 : (cls n == 3) = false := by simp [hcl]
      have hb2 : (cls n != 3) = true := by simp [hcl]
      clear hcl
      go_enter Tryz.func161, Tryz.ntmps161
      go_wp2
      go_quiet ((go_at_call 173; exact Calls.quiet_of_same (RD.out _)))
      go_wp2_with (go_at_call 170; refine (CL.out _).mono ?_; rintro e w' ⟨rfl, hb⟩)
      go_returns
      exact ⟨by rw [E.out]; rfl, ⟨hb.os, hb.tape, hb.output, hb.size, hb.block⟩⟩
theorem decode_any (s : ByteArray) (a : Int) (w : World) (hs : s.size ≤ maxLen) :
    Calls Tryz.prog 161 #[.string s, .int .i64 a] w fun e w' => e = .returned (trip (decV (bytesOf s) a)) ∧ Below w.heap.size w w' := by
  by_cases h : a < 0 ∨ (s.size : Int) < a ∨ a = s.size
  · exact decode_out s a w h
  · obtain ⟨k, rfl⟩ : ∃ k : Nat, a = k := ⟨a.toNat, by omega⟩
    have hk : k < s.size := by omega
    have hb := bytesOf_range s _ (List.mem_of_getElem? (bytesOf_at s k hk))
    have hc : (((s[k]'hk).toNat : Int)) / 64 = 0 ∨ (((s[k]'hk).toNat : Int)) / 64 = 1 ∨ (((s[k]'hk).toNat : Int)) / 64 = 2 ∨ (((s[k]'hk).toNat : Int)) / 64 = 3 := by omega
    rcases hc with hc | hc | hc | hc
    · exact decode_c0 s k w hk hs hc
    · exact decode_c1 s k w hk hs hc
    · exact decode_c2 s k w hk hs hc
    · exact decode_c3 s k w hk hs hc
theorem beB_snoc (w : Nat) (N : Int) : beB (w + 1) N = beB w (N / 256) ++ [N % 256] := by
  unfold beB
  rw [List.range_succ, List.map_append]
  congr 1
  · apply List.map_congr_left
    intro j hj
    have hj' : j < w := List.mem_range.1 hj
    have e : 8 * (w + 1 - 1 - j) = 8 + 8 * (w - 1 - j) := by omega
    rw [e, Int.pow_add, ← Int.ediv_ediv_of_nonneg (by decide)]
    rfl
  · simp
theorem beB_range (w : Nat) (N : Int) : ∀ x ∈ beB w N, 0 ≤ x ∧ x ≤ 255 := by
  intro x hx
  obtain ⟨j, _, rfl⟩ := List.mem_map.1 hx
  omega
theorem beN_beB : ∀ (w : Nat) (N : Int), 0 ≤ N → N < 256 ^ w → beN (beB w N) = N := by
  intro w
  induction w with
  | zero => intro N h0 h1; simp at h1; have : N = 0 := by omega
            subst this; rfl
  | succ w ih =>
    intro N h0 h1
    rw [beB_snoc, beN_snoc, ih (N / 256) (by omega) (by rw [Int.pow_succ] at h1; omega)]
    omega
theorem cls_case (n : Int) (h : 0 ≤ cls n) : 0 ≤ n ∧ ((cls n = 0 ∧ n ≤ 63) ∨ (cls n = 1 ∧ 63 < n ∧ n ≤ 16383) ∨ (cls n = 2 ∧ 16383 < n ∧ n ≤ 1073741823) ∨ (cls n = 3 ∧ 1073741823 < n ∧ n ≤ 4611686018427387903)) := by
  unfold cls at h ⊢
  (repeat' split at h) <;> simp_all <;> omega
theorem encV_eq (n : Int) (c : Int) (hc : 0 ≤ c) (h : cls n = c) : encV n = beB (2 ^ c.toNat) (n + c * 2 ^ (8 * 2 ^ c.toNat - 2)) := by
  subst h
  unfold encV
  rw [if_neg (by omega)]
theorem encV_wid (n : Int) : ((encV n).length : Int) = wid n := by
  unfold encV wid
  split
  · rfl
  · rw [beB_len]; simp
theorem encV_range (n : Int) : ∀ x ∈ encV n, 0 ≤ x ∧ x ≤ 255 := by
  unfold encV
  split
  · intro x hx; simp at hx
  · exact beB_range _ _
theorem beB_head (w : Nat) (N : Int) : (beB (w + 1) N)[0]? = some (N / 2 ^ (8 * w) % 256) := by
  unfold beB
  rw [List.getElem?_map]
  simp
/-- what was encoded is decoded -/
theorem decV_enc (n : Int) (h : 0 ≤ cls n) (pre suf : List Int) : decV (pre ++ (encV n ++ suf)) pre.length = (n, pre.length + wid n, 0) := by
  obtain ⟨h0, hc⟩ := cls_case n h
  have key : ∀ (c : Int) (w : Nat) (C M : Int), 0 ≤ c → cls n = c → 2 ^ c.toNat = w + 1 → C = c * 2 ^ (8 * (w + 1) - 2) → M = 2 ^ (8 * (w + 1) - 2) → (n + C) % M = n → (n + C) / 2 ^ (8 * w) % 256 / 64 = c → 0 ≤ n + C → n + C < 256 ^ (w + 1) → decV (pre ++ (encV n ++ suf)) pre.length = (n, pre.length + wid n, 0) := by
    intro c w C M hc0 hcl hw hC hM hmod hhead hN0 hN1
    have e := encV_eq n c hc0 hcl
    rw [hw, ← hC] at e
    have hwid : wid n = (w : Int) + 1 := by
      unfold wid; rw [hcl, if_neg (by omega)]
      have := congrArg (Nat.cast (R := Int)) hw
      simpa using this
    have hlen : (encV n).length = w + 1 := by rw [e, beB_len]
    have hat : (pre ++ (encV n ++ suf))[pre.length]? = some ((n + C) / 2 ^ (8 * w) % 256) := by
      rw [List.getElem?_append_right (Nat.le_refl _), Nat.sub_self, List.getElem?_append_left (by omega), e, beB_head]
    have hdrop : ((pre ++ (encV n ++ suf)).drop pre.length).take (w + 1) = encV n := by
      rw [List.drop_left, ← hlen, List.take_left]
    unfold decV
    rw [if_neg (by simp; omega), if_neg (by simp; omega), Int.toNat_natCast, hat, Option.getD_some, hhead]
    simp only [hw]
    rw [if_neg (by simp; omega), hdrop, e, beN_beB _ _ hN0 hN1, ← hM, hmod, if_pos hcl, hwid]
    simp
  rcases hc with ⟨hcl, h1⟩ | ⟨hcl, h1, h2⟩ | ⟨hcl, h1, h2⟩ | ⟨hcl, h1, h2⟩
  · exact key 0 0 0 64 (by decide) hcl rfl rfl rfl (by omega) (by simp; omega) (by omega) (by simp; omega)
  · exact key 1 1 16384 16384 (by decide) hcl rfl rfl rfl (by omega) (by simp; omega) (by omega) (by simp; omega)
  · exact key 2 3 2147483648 1073741824 (by decide) hcl rfl rfl rfl (by omega) (by simp; omega) (by omega) (by simp; omega)
  · exact key 3 7 13835058055282163712 4611686018427387904 (by decide) hcl rfl rfl rfl (by omega) (by simp; omega) (by omega) (by simp; omega)
/-- the first k numbers, and where they end -/
theorem bytes_of_nums (l : List Int) (h : ∀ x ∈ l, 0 ≤ x ∧ x ≤ 255) : bytesOf (strOfNums l) = l := by
  unfold bytesOf
  rw [strOfNums_data, List.map_map]
  conv => rhs; rw [← List.map_id l]
  apply List.map_congr_left
  intro x hx
  have := h x hx
  obtain ⟨n, rfl⟩ := Int.eq_ofNat_of_zero_le this.1
  simp only [Function.comp, Int.toNat_natCast, id]
  rw [UInt8.toNat_ofNat_of_lt' (by show n < 256; omega)]
theorem bytesOf_append (s t : ByteArray) : bytesOf (s ++ t) = bytesOf s ++ bytesOf t := by
  unfold bytesOf; simp
end Go.Proofs.YtpfkeohaaeiaaaaGreatDoor.frm
/- STREAM frames: their parts looked up; the parts' closures. -/
namespace Go.Proofs.YtpfkeohaaeiaaaaGreatDoor.frm
open Go.RowKit Go.Maps
set_option maxRecDepth 100000
/-- a row of the table of parts, looked up -/
theorem row_look {w0 w : World} {bx : Nat → Array Value} {L : Nat → Bool} {M : Nat} (h : Mp w0 bx L (.map (some M)) w) (hL : ∀ i, i < 78 → L i = true) {i t : Nat} {k : Int} {xs : List Nat}
    (hi : i < 78) (r1 : rows[i]? = some (none, .ins k t)) (r2 : rows[ix t]? = some (some t, .sl xs)) (hk : keyOf Tryz.prog 3 (.int .i64 k) = some (.int .i64 k)) :
    ∃ g cs, w.heap[g]? = some (.cells cs 141 (0, 0)) ∧ Pts bx xs cs w ∧
      (Instr.lookup 135 (.map (some M)) (.int .i64 k) true).run Tryz.prog w = .ok (.tuple #[.slice (some ⟨g, 0, none⟩) xs.length xs.length, .bool true]) w ∧
      (Instr.lookup 135 (.map (some M)) (.int .i64 k) false).run Tryz.prog w = .ok (.slice (some ⟨g, 0, none⟩) xs.length xs.length) w := by
  obtain ⟨M', n, D, h1, h2, h3, h4, h5, h6⟩ := h
  cases h1
  obtain ⟨u, s, e1, e2, e3⟩ := h6 i k t r1 (hL i hi)
  rw [r2] at e2
  cases e2
  obtain ⟨g, cs, rfl, hg, hp⟩ := e3
  obtain ⟨hh, hz⟩ := has_of_atKey e1 (by simp [undef])
  refine ⟨g, cs, hg, hp, ?_, ?_⟩
  · have := h2.look_ok (t := 135) (e := 134) (K := Maps.int_keyed Tryz.underlying3) Tryz.underlying135 (Tryz.zeroValue134 w) hk (hz _)
    rw [hh] at this; exact this
  · exact h2.look (t := 135) (e := 134) (K := Maps.int_keyed Tryz.underlying3) Tryz.underlying135 (Tryz.zeroValue134 w) hk (hz _)
theorem row31 : rows[31]? = some (none, .ins 8 47) := by kernel_rfl
theorem row47 : rows[ix 47]? = some (some 47, .sl [44, 45, 46]) := by kernel_rfl
theorem row44 : rows[ix 44]? = some (some 44, .ld 1) := by kernel_rfl
theorem row45 : rows[ix 45]? = some (some 45, .ld 5) := by kernel_rfl
theorem row46 : rows[ix 46]? = some (some 46, .ld 8) := by kernel_rfl
theorem key8 : keyOf Tryz.prog 3 (.int .i64 8) = some (.int .i64 8) := Maps.keyOf_int_mk Tryz.underlying3 (by decide)
/-- the parts of a STREAM frame -/
theorem str_row {w0 w : World} {bx : Nat → Array Value} {L : Nat → Bool} {M : Nat} (h : Mp w0 bx L (.map (some M)) w) (hL : ∀ i, i < 78 → L i = true) :
    ∃ g, w.heap[g]? = some (.cells (bx 1 ++ (bx 5 ++ bx 8)) 141 (0, 0)) ∧
      (Instr.lookup 135 (.map (some M)) (.int .i64 8) true).run Tryz.prog w = .ok (.tuple #[.slice (some ⟨g, 0, none⟩) 3 3, .bool true]) w ∧
      (Instr.lookup 135 (.map (some M)) (.int .i64 8) false).run Tryz.prog w = .ok (.slice (some ⟨g, 0, none⟩) 3 3) w := by
  obtain ⟨g, cs, hg, hp, l1, l2⟩ := row_look h hL (by decide) row31 row47 key8
  obtain ⟨c1, d1, s1, rfl, z1, r1, p1, hp⟩ := hp
  rw [row44] at r1; cases r1
  obtain ⟨c2, d2, s2, rfl, z2, r2, p2, hp⟩ := hp
  rw [row45] at r2; cases r2
  obtain ⟨c3, d3, s3, rfl, z3, r3, p3, hp⟩ := hp
  rw [row46] at r3; cases r3
  cases hp
  cases p1; cases p2; cases p3
  refine ⟨g, ?_, l1, l2⟩
  rw [hg]; simp
theorem fld1_any (b : Nat) (w : World) : Calls Tryz.prog 95 #[.pointer (some ⟨b, 0, none⟩)] w fun e w' => e = .returned (.pointer (some ⟨b, 1, none⟩)) ∧ w = w' := by
  go_enter Tryz.func95, Tryz.ntmps95
  go_wp2
  go_ret
  exact ⟨rfl, rfl⟩
theorem fld2_any (b : Nat) (w : World) : Calls Tryz.prog 99 #[.pointer (some ⟨b, 0, none⟩)] w fun e w' => e = .returned (.pointer (some ⟨b, 2, none⟩)) ∧ w = w' := by
  go_enter Tryz.func99, Tryz.ntmps99
  go_wp2
  go_ret
  exact ⟨rfl, rfl⟩
theorem fld1_q (b : Nat) (w : World) : Calls Tryz.prog 95 #[.pointer (some ⟨b, 0, none⟩)] w fun e w' => e = .returned (.pointer (some ⟨b, 1, none⟩)) ∧ w' = w := (fld1_any b w).mono fun _ _ h => ⟨h.1, h.2.symm⟩
theorem fld2_q (b : Nat) (w : World) : Calls Tryz.prog 99 #[.pointer (some ⟨b, 0, none⟩)] w fun e w' => e = .returned (.pointer (some ⟨b, 2, none⟩)) ∧ w' = w := (fld2_any b w).mono fun _ _ h => ⟨h.1, h.2.symm⟩
set_option maxRecDepth 100000 in
set_option maxHeartbeats 2000000 in
theorem put1_any (b n : Nat) (d lim : Int) (w : World) (h0 : 0 ≤ d) (hl : d ≤ lim) (hm : d ≤ 4611686018427387903) (hc : w.cell? ⟨b, 1, none⟩ = some (.int .i64 d)) (c1 : w.cell? ⟨n + 1, 0, none⟩ = some (fnv 95)) (c0 : w.cell? ⟨n, 0, none⟩ = some (.int .i64 lim)) :
    Calls Tryz.prog 123 #[.pointer (some ⟨b, 0, none⟩), .pointer (some ⟨n + 1, 0, none⟩), .pointer (some ⟨n, 0, none⟩)] w fun e w' => e = .returned (.string (strOfNums (encV d))) ∧ Below w.heap.size w w' := by
  unfold fnv at c1
  go_enter Tryz.func123, Tryz.ntmps123
  go_wp2
  go_still_tail 6, (by kernel_rfl)
  repeat (first | still_step | still_call (fld1_q _ _))
  refine wpStill_nil ?_
  go_wp2_with (go_at_call 124; refine (number_any d lim _ h0 hl hm).mono ?_; rintro e w' ⟨rfl, hb⟩)
  go_ret
  exact ⟨rfl, below_drew hb⟩
set_option maxRecDepth 100000 in
set_option maxHeartbeats 2000000 in
theorem put2_any (b n : Nat) (d lim : Int) (w : World) (h0 : 0 ≤ d) (hl : d ≤ lim) (hm : d ≤ 4611686018427387903) (hc : w.cell? ⟨b, 2, none⟩ = some (.int .i64 d)) (c1 : w.cell? ⟨n + 1, 0, none⟩ = some (fnv 99)) (c0 : w.cell? ⟨n, 0, none⟩ = some (.int .i64 lim)) :
    Calls Tryz.prog 123 #[.pointer (some ⟨b, 0, none⟩), .pointer (some ⟨n + 1, 0, none⟩), .pointer (some ⟨n, 0, none⟩)] w fun e w' => e = .returned (.string (strOfNums (encV d))) ∧ Below w.heap.size w w' := by
  unfold fnv at c1
  go_enter Tryz.func123, Tryz.ntmps123
  go_wp2
  go_still_tail 6, (by kernel_rfl)
  repeat (first | still_step | still_call (fld2_q _ _))
  refine wpStill_nil ?_
  go_wp2_with (go_at_call 124; refine (number_any d lim _ h0 hl hm).mono ?_; rintro e w' ⟨rfl, hb⟩)
  go_ret
  exact ⟨rfl, below_drew hb⟩
set_option maxRecDepth 100000 in
set_option maxHeartbeats 2000000 in
theorem clear1_any (b n : Nat) (cs : Array Value) (w : World) (hb : w.heap[b]? = some (.cells cs 56 (0, 0))) (hz : cs.size = 13) (c1 : w.cell? ⟨n + 1, 0, none⟩ = some (fnv 95)) :
    Calls Tryz.prog 127 #[.pointer (some ⟨b, 0, none⟩), .pointer (some ⟨n + 1, 0, none⟩)] w fun e w' => e = .returned (.tuple #[]) ∧ w' = w.setCell ⟨b, 1, none⟩ (.int .i64 0) := by
  unfold fnv at c1
  have c8 : w.cell? ⟨b, 1, none⟩ = some cs[1] := (cell_whole hb 1).trans (by simp [hz])
  have f8 := frozen_whole hb 1
  have HB := Lib.hid hb
  clear hb
  go_enter Tryz.func127, Tryz.ntmps127
  go_wp2_with (go_at_call 95; refine (fld1_any b _).mono ?_; rintro e w' ⟨rfl, rfl⟩)
  go_end0
  exact ⟨rfl, rfl⟩
set_option maxRecDepth 100000 in
set_option maxHeartbeats 2000000 in
theorem clear2_any (b n : Nat) (cs : Array Value) (w : World) (hb : w.heap[b]? = some (.cells cs 56 (0, 0))) (hz : cs.size = 13) (c1 : w.cell? ⟨n + 1, 0, none⟩ = some (fnv 99)) :
    Calls Tryz.prog 127 #[.pointer (some ⟨b, 0, none⟩), .pointer (some ⟨n + 1, 0, none⟩)] w fun e w' => e = .returned (.tuple #[]) ∧ w' = w.setCell ⟨b, 2, none⟩ (.int .i64 0) := by
  unfold fnv at c1
  have c8 : w.cell? ⟨b, 2, none⟩ = some cs[2] := (cell_whole hb 2).trans (by simp [hz])
  have f8 := frozen_whole hb 2
  have HB := Lib.hid hb
  clear hb
  go_enter Tryz.func127, Tryz.ntmps127
  go_wp2_with (go_at_call 99; refine (fld2_any b _).mono ?_; rintro e w' ⟨rfl, rfl⟩)
  go_end0
  exact ⟨rfl, rfl⟩
set_option maxRecDepth 100000 in
set_option maxHeartbeats 2000000 in
theorem clearS_any (b : Nat) (cs : Array Value) (w : World) (hb : w.heap[b]? = some (.cells cs 56 (0, 0))) (hz : cs.size = 13) :
    Calls Tryz.prog 131 #[.pointer (some ⟨b, 0, none⟩)] w fun e w' => e = .returned (.tuple #[]) ∧ w' = w.setCell ⟨b, 3, none⟩ (.string ⟨#[]⟩) := by
  have c8 : w.cell? ⟨b, 3, none⟩ = some cs[3] := (cell_whole hb 3).trans (by simp [hz])
  have f8 := frozen_whole hb 3
  have HB := Lib.hid hb
  clear hb
  go_enter Tryz.func131, Tryz.ntmps131
  go_wp2
  go_end0
  exact ⟨rfl, rfl⟩
set_option maxRecDepth 100000 in
set_option maxHeartbeats 2000000 in
/-- a text's part: its length and the text -/
theorem putS_any (b n : Nat) (off : Int) (s : ByteArray) (m : Int) (w : World) (h0 : 0 ≤ off) (h1 : off + (s.size : Int) ≤ 1099511627776) (hm : (s.size : Int) ≤ m) (hc2 : w.cell? ⟨b, 2, none⟩ = some (.int .i64 off)) (hc3 : w.cell? ⟨b, 3, none⟩ = some (.string s))
    (c0 : w.cell? ⟨n, 0, none⟩ = some (.int .i64 0)) (c1 : w.cell? ⟨n + 1, 0, none⟩ = some (.int .i64 m)) :
    Calls Tryz.prog 128 #[.pointer (some ⟨b, 0, none⟩), .pointer (some ⟨n, 0, none⟩), .pointer (some ⟨n + 1, 0, none⟩)] w fun e w' => e = .returned (.string (strOfNums (encV s.size) ++ s)) ∧ Below w.heap.size w w' := by
  have g0 : decide ((s.size : Int) < 0) = false := decide_eq_false (by omega)
  have g1 : decide (off + (s.size : Int) > 1099511627776) = false := decide_eq_false (by omega)
  have g2 : (1099511627776 < off + (s.size : Int)) = False := eq_false (by omega)
  have w1 : IntKind.i64.wrap (off + (s.size : Int)) = off + (s.size : Int) := IntWalk.i64_in _ (by omega)
  have hl : (encV s.size).length ≤ 8 := encV_len _
  have z1 : (9223372036854775807 < (strOfNums (encV s.size)).size + s.size) = False := eq_false (by rw [strOf_size]; omega)
  have NA := Lib.hid (fun wx => number_any (s.size : Int) m wx (by omega) hm (by omega))
  clear hl
  generalize strOfNums (encV s.size) = t at *
  go_enter Tryz.func128, Tryz.ntmps128
  go_wp2
  go_quiet (fail)
  go_wp2_with fail
  have l3 := World.block_lt_of_cell? _ _ hc3
  have l1 := World.block_lt_of_cell? _ _ c1
  have HS := Lib.hid (show ∀ w', Held w w.heap.size w' → (w'.cell? ⟨b, 3, none⟩ = some (.string s) ∧ w'.cell? ⟨n + 1, 0, none⟩ = some (.int .i64 m)) from fun w' h => ⟨h.cell hc3 (Nat.ne_of_lt l3), h.cell c1 (Nat.ne_of_lt l1)⟩)
  clear l3 l1
  go_region_held3 (fun w' => w'.cell? ⟨b, 3, none⟩ = some (.string s) ∧ w'.cell? ⟨n + 1, 0, none⟩ = some (.int .i64 m)) (first | exact HS.out _ (((Held.refl w _).drewN _).drew) | exact HS.out _ ((((Held.refl w _).drewN _).drew).below hb2)) (first | (go_at_call 124; refine (NA.out _).mono ?_; rintro e w2 ⟨rfl, hb2⟩))
  go_wp2
  go_ret
  exact ⟨rfl, ⟨hb2.os, hb2.tape, hb2.output, hb2.size, hb2.block⟩⟩
end Go.Proofs.YtpfkeohaaeiaaaaGreatDoor.frm
