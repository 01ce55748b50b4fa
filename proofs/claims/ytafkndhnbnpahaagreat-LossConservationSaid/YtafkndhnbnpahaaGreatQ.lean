/- Law 13: a frame's parts looked up; Same at two bare ACK frames. -/
import Derived.Test.YtafkndhnbnpahaaGreatP
namespace Go.Proofs.YtafkndhnbnpahaaGreat
open Go.RowKit Go.Maps
theorem has_of_atKey {D : DataW Value} {k : Lit} {z u : Value} (h : D.atKey k (.held z) = .held u) (hu : u ≠ z) : Maps.has D k = true ∧ ∀ z', D.atKey k (.held z') = .held u := by
  unfold DataW.atKey at h ⊢
  unfold Maps.has
  cases D <;> simp only [DataW.held.injEq] at h <;> try exact absurd h.symm hu
  rename_i es
  cases hf : es.find? (fun p => p.1.sameKey k) with
  | none => rw [hf] at h; simp only [DataW.held.injEq] at h; exact absurd h.symm hu
  | some p =>
    rw [hf] at h
    refine ⟨?_, fun z' => by simp only [hf]; exact h⟩
    simp only
    exact List.any_eq_true.2 ⟨p, List.mem_of_find?_eq_some hf, by simpa using List.find?_some hf⟩
theorem row10 : rows[10]? = some (none, .ins 2 31) := by kernel_rfl
theorem row9 : rows[ix 31]? = some (some 31, .sl [29, 30]) := by kernel_rfl
theorem row29 : rows[ix 29]? = some (some 29, .ld 7) := by kernel_rfl
theorem row30 : rows[ix 30]? = some (some 30, .ld 12) := by kernel_rfl
theorem key2 : keyOf Tryz.prog 3 (.int .i64 2) = some (.int .i64 2) := Maps.keyOf_int_mk Tryz.underlying3 (by decide)
/-- the parts of an ACK frame -/
theorem ack_row {w0 w : World} {bx : Nat → Array Value} {L : Nat → Bool} {M : Nat} (h : Mp w0 bx L (.map (some M)) w) (hL : ∀ i, i < 78 → L i = true) :
    ∃ g cs, w.heap[g]? = some (.cells cs 124 (0, 0)) ∧ cs = bx 7 ++ bx 12 ∧ (bx 7).size = 3 ∧ (bx 12).size = 3 ∧ (Instr.lookup 117 (.map (some M)) (.int .i64 2) true).run Tryz.prog w = .ok (.tuple #[.slice (some ⟨g, 0, none⟩) 2 2, .bool true]) w := by
  obtain ⟨M', n, D, h1, h2, h3, h4, h5, h6⟩ := h
  cases h1
  obtain ⟨u, s, e1, e2, e3⟩ := h6 10 2 31 row10 (hL 10 (by decide))
  rw [row9] at e2
  cases e2
  obtain ⟨g, cs, rfl, hg, hp⟩ := e3
  obtain ⟨c1, c2, s1, rfl, z1, r1, p1, hp⟩ := hp
  rw [row29] at r1; cases r1
  obtain ⟨c3, c4, s2, rfl, z2, r2, p2, hp⟩ := hp
  rw [row30] at r2; cases r2
  cases hp
  cases p1; cases p2
  obtain ⟨hh, hz⟩ := has_of_atKey e1 (by simp [undef])
  have := h2.look_ok (t := 117) (e := 115) (K := Maps.int_keyed Tryz.underlying3) Tryz.underlying117 (Tryz.zeroValue115 w) key2 (hz _)
  rw [hh] at this
  exact ⟨g, _, hg, by simp, z1, z2, this⟩
def ackE (d : Int) (rv : Value) : Array Value := #[.int .i64 2, .int .i64 0, .int .i64 0, .string ⟨#[]⟩, .bool false, .int .i64 0, .int .i64 0, .bool false, .int .i64 d, rv, .int .i64 0, .int .i64 0, .string ⟨#[]⟩]
set_option maxRecDepth 100000 in
set_option maxHeartbeats 2000000 in
theorem equal_nil (w : World) : Calls Tryz.prog 102 #[.slice none 0 0, .slice none 0 0] w fun e w' => e = .returned (.bool true) ∧ w = w' := by
  go_enter Tryz.func102, Tryz.ntmps102
  go_wp2
  refine wp_loop_rounds 1 ?_
  rw [rounds_succ]
  go_wp2
  go_ret
  exact ⟨rfl, rfl⟩
set_option maxRecDepth 100000 in
set_option maxHeartbeats 4000000 in
theorem same_ack (w : World) : Calls Tryz.prog 79 #[.agg (ackE 0 (.slice none 0 0)), .agg (ackE 0 (.slice none 0 0))] w fun e w' => e = .returned (.bool true) ∧ Below w.heap.size w w' := by
  unfold ackE
  have c := box2 w (.cells #[.int .i64 2, .int .i64 0, .int .i64 0, .string ⟨#[]⟩, .bool false, .int .i64 0, .int .i64 0, .bool false, .int .i64 0, .slice none 0 0, .int .i64 0, .int .i64 0, .string ⟨#[]⟩] 41) (.cells #[.int .i64 2, .int .i64 0, .int .i64 0, .string ⟨#[]⟩, .bool false, .int .i64 0, .int .i64 0, .bool false, .int .i64 0, .slice none 0 0, .int .i64 0, .int .i64 0, .string ⟨#[]⟩] 41)
  have C := Lib.hid c
  clear c
  go_enter Tryz.func79, Tryz.ntmps79
  go_wp2_with (go_at_call 102; refine (equal_nil _).mono ?_; rintro e w' ⟨rfl, rfl⟩)
  go_ret
  exact ⟨rfl, C.out.2.2.1⟩
end Go.Proofs.YtafkndhnbnpahaaGreat
