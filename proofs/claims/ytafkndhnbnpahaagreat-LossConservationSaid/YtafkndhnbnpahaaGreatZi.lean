/- Law 13: the reference's Same at packets without frames. -/
import Derived.Test.YtafkndhnbnpahaaGreatZh
import Derived.Deep.QuietTactic
namespace Go.Proofs.YtafkndhnbnpahaaGreat
open Go.RowKit
set_option maxRecDepth 100000 in
set_option maxHeartbeats 2000000 in
theorem sameall_nil (w : World) : Calls Tryz.prog 49 #[.slice none 0 0, .slice none 0 0] w fun e w' => e = .returned (.bool true) ∧ w' = w := by
  go_enter Tryz.func49, Tryz.ntmps49
  go_wp2
  refine wp_loop_rounds 1 ?_
  rw [rounds_succ]
  go_wp2
  go_ret
  exact ⟨rfl, rfl⟩
set_option maxRecDepth 100000 in
set_option maxHeartbeats 8000000 in
theorem same_nil (B : Nat) (l : List Pk) (v1 v2 : Value) (w : World) (hf : ∀ p ∈ l, p.fv = .slice none 0 0) (h1 : PkRow B w v1 l) (h2 : PkRow B w v2 l) :
    Calls Tryz.prog 22 #[v1, v2] w fun e w' => e = .returned (.bool true) ∧ Below w.heap.size w w' := by
  rcases h1.form with ⟨rfl, hl0⟩ | ⟨g, cap, cur, rfl, hpos, hcap, hm, hg, hgg, hcell⟩
  · subst hl0
    obtain rfl := h2.2.2 rfl
    clear h1 h2
    go_enter Tryz.func22, Tryz.ntmps22
    go_wp2
    refine wp_loop_rounds 1 ?_
    rw [rounds_succ]
    go_wp2
    go_ret
    exact ⟨rfl, Below.refl _ _⟩
  · rcases h2.form with ⟨_, h0⟩ | ⟨g2, cap2, cur2, rfl, _, hcap2, hm2, _, hgg2, hcell2⟩
    · subst h0; simp at hpos
    · have C1 := Lib.hid hcell
      have C2 := Lib.hid hcell2
      have HF := Lib.hid hf
      unfold maxLen at hm hm2
      clear hf h1 h2 hcell hcell2 hgg hgg2 hg
      go_enter Tryz.func22, Tryz.ntmps22
      go_wp2
      go_loopw [5] (fun i wr => ∃ k : Nat, k ≤ l.length ∧ i = .int .i64 k ∧ Below w.heap.size w wr) (fun i _ => l.length - (intOf i).toNat)
      case atStart => exact ⟨0, by omega, rfl, Below.refl _ _⟩
      case round =>
        obtain ⟨k, hk, rfl, hB⟩ := hrel
        have B := Lib.hid hB
        clear hB
        by_cases hlt : k < l.length
        · have D1 := C1.out k hlt
          have D2 := C2.out k hlt
          have q := fun (a : Nat) (o : Nat) (x : Value) (h : w.cell? ⟨a, o, none⟩ = some x) => (B.out.cell (p := ⟨a, o, none⟩) (World.block_lt_of_cell? _ _ h)).trans h
          have a0 := q _ _ _ D1.1
          have a1 := q _ _ _ D1.2.1
          have a2 := q _ _ _ D1.2.2.1
          have a3 := q _ _ _ D1.2.2.2.1
          have a4 := q _ _ _ D1.2.2.2.2
          have b0 := q _ _ _ D2.1
          have b1 := q _ _ _ D2.2.1
          have b2 := q _ _ _ D2.2.2.1
          have b3 := q _ _ _ D2.2.2.2.1
          have b4 := q _ _ _ D2.2.2.2.2
          have hfv := HF.out (l[k]'hlt) (List.getElem_mem hlt)
          rw [hfv] at a4 b4
          have i0 : (0 : Int) ≤ (k : Int) := by omega
          have i1 : (k : Int) < (l.length : Int) := by omega
          clear q D1 D2 hfv
          generalize l[k]'hlt = p at *
          go_wp2
          go_quiet ((go_at_call 49; exact Calls.quiet_of_same (sameall_nil _)))
          go_wp2
          go_roundw
          case rel => exact ⟨k + 1, by omega, by go_num, belowN B.out _⟩
          case measure => simp [intOf]; omega
        · obtain rfl : k = l.length := by omega
          clear hlt
          go_wp2
          go_ret
          exact ⟨rfl, B.out⟩
end Go.Proofs.YtafkndhnbnpahaaGreat
