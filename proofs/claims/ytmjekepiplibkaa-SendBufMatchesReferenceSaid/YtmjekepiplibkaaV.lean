import Derived.Test.YtmjekepiplibkaaU
namespace Go.Proofs.Ytmjekepiplibkaa
open Go.RowKit
theorem madeCells_u8 (n : Nat) : (madeCells (Value.int .u8 0).cells (n * 1)).toList = (streamRow n 0).map (Value.int .u8) := by
  rw [streamRow_zero]
  simp only [madeCells, Value.cells, Nat.mul_one]
  apply List.ext_getElem?
  intro j
  by_cases h : j < n
  · simp [h, Nat.mod_one]
  · simp [h]
theorem below_setOwn {w wr : World} (h : Below w.heap.size w wr) (k : Nat) (v : Value) : Below w.heap.size w (wr.setCell ⟨w.heap.size, k, none⟩ v) := h.setCell (Nat.le_refl _) _
set_option maxHeartbeats 2000000 in
theorem stream_any (n : Nat) (w : World) (hn : n ≤ 500) :
    Calls Try.prog 10 #[.int .i64 n] w fun e w' => e = .returned (.string (strOfNums (streamRow n n))) ∧ Below w.heap.size w w' := by
  obtain ⟨i5, p1, p2, p3, p4⟩ := facts5
  have P1 := Lib.hid p1; have P2 := Lib.hid p2; have P3 := Lib.hid p3; have P4 := Lib.hid p4
  clear p1 p2 p3 p4
  go_enter Try.func10, Try.ntmps10
  go_wp2_with (refine wpList_make_full w rfl (.tmp 5) (.tmp 5) 31 rfl 0 5 i5 _ 1 Try.underlying31 P1.out P2.out P3.out .i64 .i64 _ _ n rfl rfl rfl rfl (by rw [P4.out]; omega) (by unfold maxLen; omega) (Nat.zero_le _) ?_; intro w1 ho hg)
  have HO : Hid (w1.ownsRow 0 5 1 (.slice (some ⟨w.heap.size, 0, none⟩) n n) n ((streamRow n 0).map (.int .u8))) := Lib.hid (by rw [← madeCells_u8]; exact ho)
  have HB : Hid (Below w.heap.size w w1) := Lib.hid ⟨hg.os, hg.tape, hg.output, hg.size, fun k hk => hg.block k hk (by simp)⟩
  clear ho hg
  go_loopw [4] (fun i wr => ∃ k : Nat, k ≤ n ∧ i = .int .i64 k ∧ Hid (wr.ownsRow 0 5 1 (.slice (some ⟨w.heap.size, 0, none⟩) n n) n ((streamRow n k).map (.int .u8))) ∧ Hid (Below w.heap.size w wr)) (fun i _ => n - (intOf i).toNat)
  case atStart => exact ⟨0, Nat.zero_le _, rfl, HO, HB⟩
  case round =>
    obtain ⟨k, hk, rfl, HO, HB⟩ := hrel
    by_cases hlt : k < n
    · have hc : wr.cell? ⟨w.heap.size, k, none⟩ = some (.int .u8 ((streamRow n k)[k]?.getD 0)) ∧ wr.frozen? ⟨w.heap.size, k, none⟩ = false := by
        obtain ⟨g, cap, e, _, _, h1, h2⟩ := own_cells HO.out (by omega)
        simp only [Value.slice.injEq, Option.some.injEq, Addr.mk.injEq] at e
        obtain ⟨⟨rfl, _, _⟩, _, rfl⟩ := e
        exact ⟨h1 k hlt, h2 k⟩
      obtain ⟨hc1, hc2⟩ := hc
      generalize (streamRow n k)[k]?.getD 0 = x at hc1
      have HN : Hid (((wr.setCell ⟨w.heap.size, k, none⟩ (.int .u8 (streamAt k)))).ownsRow 0 5 1 (.slice (some ⟨w.heap.size, 0, none⟩) n n) n ((streamRow n (k+1)).map (.int .u8))) := Lib.hid (by rw [← streamRow_succ n k hlt]; exact own_set HO.out k _)
      have HB2 := Lib.hid (below_setOwn HB.out k (.int .u8 (streamAt k)))
      clear HO HB
      have e0 : IntKind.u8.wrap (97 + ((k : Int) * 7 + (k : Int) / 26 * 3) % 26) = streamAt k := by
        rw [show streamAt k = 97 + ((k : Int) * 7 + (k : Int) / 26 * 3) % 26 from by unfold streamAt; push_cast; rfl]
        have := Int.emod_nonneg ((k : Int) * 7 + (k : Int) / 26 * 3) (show (26 : Int) ≠ 0 by decide)
        have := Int.emod_lt_of_pos ((k : Int) * 7 + (k : Int) / 26 * 3) (show (0 : Int) < 26 by decide)
        exact IntWalk.u8_in _ (by omega)
    
      go_wp2
      go_roundw
      case rel => exact ⟨k + 1, by omega, by go_num, HN, HB2⟩
      case measure => simp [intOf]; omega
    · have : k = n := by omega
      subst this
      have hcv : ∀ dst, Try.prog.underlying dst = some .string → (convert 31 dst (.slice (some ⟨w.heap.size, 0, none⟩) k k)).run Try.prog wr = .ok (.string (strOfNums (streamRow k k))) wr := by
        rcases Nat.eq_zero_or_pos k with h0 | h0
        · subst h0
          exact run_convert_bytes_arg wr 31 5 Try.underlying31 Try.underlying5 w.heap.size 0 0 0 [] rfl (fun i hi => by omega)
        · obtain ⟨g, cap, e, _, _, h1, h2⟩ := own_cells HO.out h0
          simp only [Value.slice.injEq, Option.some.injEq, Addr.mk.injEq] at e
          obtain ⟨⟨rfl, _, _⟩, _, rfl⟩ := e
          exact run_convert_bytes_arg wr 31 5 Try.underlying31 Try.underlying5 w.heap.size 0 k k (streamRow k k) (streamRow_length _ _) (fun i hi => by rw [Nat.zero_add, h1 i hi, List.getD_eq_getElem?_getD])
      have HB3 := HB
      clear HO HB
      have hcv9 := hcv 9 Try.underlying9
      go_wp2
      go_ret
      exact ⟨rfl, HB3.out⟩
end Go.Proofs.Ytmjekepiplibkaa
