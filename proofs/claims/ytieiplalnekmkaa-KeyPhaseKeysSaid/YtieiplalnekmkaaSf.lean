/- Law 25: SecretFrom. -/
import Derived.Test.YtieiplalnekmkaaNw
import Derived.StillTailTactics
namespace Go.Proofs.Ytieiplalnekmkaa
open Go.RowKit
def sfB (s : ByteArray) (i : Nat) : Int := if 0 < s.size then ((bytesOf s).getD (i % s.size) 0 + (i / s.size : Nat)) % 256 else (i * 37 : Nat) % 256
def sfL (s : ByteArray) (k : Nat) : List Int := (List.range k).map (sfB s) ++ List.replicate (16 - k) 0
def sfS (s : ByteArray) : ByteArray := strOfNums (sfL s 16)
theorem sfL_len (s : ByteArray) (k : Nat) (h : k ≤ 16) : (sfL s k).length = 16 := by simp [sfL]; omega
theorem sfS_size (s : ByteArray) : (sfS s).size = 16 := by unfold sfS; rw [sON_size, sfL_len _ _ (Nat.le_refl _)]
theorem sfL_succ (s : ByteArray) (k : Nat) (h : k < 16) : (u8s (sfL s k)).setIfInBounds k (.int .u8 (sfB s k)) = u8s (sfL s (k + 1)) := by
  unfold sfL u8s
  have hr : List.replicate (16 - k) (0 : Int) = 0 :: List.replicate (16 - (k + 1)) 0 := by
    rw [show 16 - k = (16 - (k + 1)) + 1 by omega, List.replicate_succ]
  rw [hr, List.range_succ]
  simp only [List.map_append, List.map_cons, List.map_nil, List.setIfInBounds_toArray, List.append_assoc, List.cons_append, List.nil_append]
  rw [List.set_append_right _ _ (by simp)]
  simp
set_option maxRecDepth 100000 in
set_option maxHeartbeats 4000000 in
theorem st_any (s : ByteArray) (w : World) (_hs : s.size ≤ 20) :
    Calls Try.prog 29 #[.string s, .int .i64 16] w fun e w' => e = .returned (.string (sfS s)) ∧ Below w.heap.size w w' := by
  have F := Lib.hid (box1 w (.cells (u8s (sfL s 0)) 5))
  have hmk : (Instr.makeSlice 77 (.int .i64 16) (.int .i64 16)).run Try.prog w = .ok (.slice (some ⟨w.heap.size, 0, none⟩) 16 16) (w.alloc (.cells (u8s (sfL s 0)) 5)) := by kernel_rfl
  unfold sfS
  go_enter Try.func29, Try.ntmps29
  go_wp2
  generalize w.alloc (.cells (u8s (sfL s 0)) 5) = V at F ⊢
  clear hmk
  go_loopw [6] (fun i wr => ∃ j : Nat, j ≤ 16 ∧ i = .int .i64 j ∧ wr.heap[w.heap.size]? = some (.cells (u8s (sfL s j)) 5) ∧ Below w.heap.size w wr) (fun i _ => 16 - (intOf i).toNat)
  case atStart => exact ⟨0, by decide, rfl, F.out.1, F.out.2.1⟩
  case round =>
    obtain ⟨j, hj, rfl, hR, hB⟩ := hrel
    by_cases hlt : j < 16
    · have HS := Lib.hid (sfL_succ s j hlt)
      have g0 : (0 : Int) ≤ (j : Int) := by omega
      have g1 : (j : Int) < 16 := by omega
      have c0 := at_whole hR j (u8s_at _ j (by rw [sfL_len _ _ hj]; exact hlt))
      have f0 := frozen_whole hR j
      generalize (sfL s j).getD j 0 = old at *
      by_cases h0 : 0 < s.size
      · have E : Hid (sfB s j = ((bytesOf s).getD (j % s.size) 0 + (j / s.size : Nat)) % 256) := Lib.hid (by unfold sfB; rw [if_pos h0])
        have hjs : j % s.size < s.size := Nat.mod_lt _ h0
        have hmod : ((j % s.size : Nat) : Int) = (j : Int) % (s.size : Int) := Int.natCast_emod _ _
        have hdiv : ((j / s.size : Nat) : Int) = (j : Int) / (s.size : Int) := Int.natCast_ediv _ _
        have hi0 : (0 : Int) ≤ (j : Int) % (s.size : Int) := by omega
        have hi1 : (j : Int) % (s.size : Int) < (s.size : Int) := by omega
        have ht : ((j : Int) % (s.size : Int)).toNat = j % s.size := by rw [← hmod]; rfl
        have hd16 : j / s.size ≤ 16 := Nat.le_trans (Nat.div_le_self _ _) hj
        have hq0 : (0 : Int) ≤ (j : Int) / (s.size : Int) := by rw [← hdiv]; exact Int.natCast_nonneg _
        have hq1 : (j : Int) / (s.size : Int) ≤ 16 := by rw [← hdiv]; exact Int.ofNat_le.2 hd16
        have hem : (s = ByteArray.empty) = False := eq_false (fun e => by rw [e] at h0; exact absurd h0 (by decide))
        have htm : (j : Int).tmod (s.size : Int) = (j : Int) % (s.size : Int) := Int.tmod_eq_emod_of_nonneg (by omega)
        have htd : (j : Int).tdiv (s.size : Int) = (j : Int) / (s.size : Int) := Int.tdiv_eq_ediv_of_nonneg (by omega)
        have HMD := Lib.hid (And.intro hmod hdiv)
        clear hmod hdiv
        have hby := bytesOf_at s (j % s.size) hjs
        have HBY := Lib.hid hby
        clear hby
        go_wp2
        generalize hV2 : wr.setCell ⟨w.heap.size, j, none⟩ (.int .u8 ((j : Int) * 37 % 256)) = W2
        have c2 : W2.cell? ⟨w.heap.size, j, none⟩ = some (.int .u8 ((j : Int) * 37 % 256)) := by rw [← hV2]; exact World.cell?_setCell_same _ _ _ c0
        have f2 : W2.frozen? ⟨w.heap.size, j, none⟩ = false := by rw [← hV2]; exact (World.frozen?_setCell ..).trans f0
        have HV2 := Lib.hid hV2
        clear hV2
        go_still_tail 15, (by kernel_rfl)
        go_wp2
        have hv : sfB s j = ((s[j % s.size]'hjs).toNat + (j : Int) / (s.size : Int)) % 256 := by
          rw [E.out, HMD.out.2, List.getD_eq_getElem?_getD, HBY.out]; rfl
        have hh : (W2.setCell ⟨w.heap.size, j, none⟩ (.int .u8 (sfB s j))).heap[w.heap.size]? = some (.cells (u8s (sfL s (j + 1))) 5 (0, 0)) := by
          rw [← HV2.out, ← HS.out]
          refine (heap_set _ (heap_set _ hR)).trans ?_
          rw [Array.setIfInBounds_setIfInBounds]
        rw [hv] at hh
        have hbb : Below w.heap.size w W2 := by rw [← HV2.out]; exact hB.setCell (p := ⟨w.heap.size, j, none⟩) (Nat.le_refl _) _
        refine ⟨⟨j + 1, by omega, by go_num, hh, (hbb.setCell (p := ⟨w.heap.size, j, none⟩) (Nat.le_refl _) _).drew⟩, ?_⟩
        simp [intOf]; omega
      · have E : Hid (sfB s j = (j * 37 : Nat) % 256) := Lib.hid (by unfold sfB; rw [if_neg h0])
        have hz : decide (0 < s.size) = false := by simpa using h0
        clear h0
        go_wp2
        go_roundw
        case rel =>
          have hh := heap_set (.int .u8 (sfB s j)) (i := j) hR
          rw [HS.out, E.out] at hh
          refine ⟨j + 1, by omega, by go_num, ?_, hB.setCell (p := ⟨w.heap.size, j, none⟩) (Nat.le_refl _) _⟩
          simpa using hh
        case measure => simp [intOf]; omega
    · obtain rfl : j = 16 := by omega
      have hcv := run_convert_bytes_arg (P := Try.prog) wr 77 5 Try.underlying77 Try.underlying5 w.heap.size 0 16 16 (sfL s 16) (sfL_len _ _ (Nat.le_refl _)) (fun i hi => by rw [Nat.zero_add]; exact at_whole hR i (u8s_at _ i (by rw [sfL_len _ _ (Nat.le_refl _)]; exact hi))) 9 Try.underlying9
      have HB := Lib.hid hB
      clear hR hB hlt hj
      go_wp2
      go_ret
      exact ⟨rfl, HB.out⟩
theorem sf_any (s : ByteArray) (w : World) (hs : s.size ≤ 20) :
    Calls Try.prog 17 #[.string s] w fun e w' => e = .returned (.string (sfS s)) ∧ Below w.heap.size w w' := by
  have ST := Lib.hid (st_any s w hs)
  clear hs
  go_enter Try.func17, Try.ntmps17
  go_wp2_with (go_at_call 29; refine ST.out.mono ?_; rintro e w' ⟨rfl, hb⟩)
  go_ret
  exact ⟨rfl, hb⟩
end Go.Proofs.Ytieiplalnekmkaa
