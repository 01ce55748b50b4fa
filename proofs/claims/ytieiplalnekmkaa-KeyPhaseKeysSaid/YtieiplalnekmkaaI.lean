/- Law 25: the cipher's words, mix, forward. -/
import Derived.Test.YtieiplalnekmkaaH
import Derived.Laws.AppendOwn
import Derived.Laws.MakeOwn
import Derived.OwnWalk
namespace Go.Proofs.Ytieiplalnekmkaa
open Go.RowKit
theorem info94 : (Try.prog.info? 94).map (fun i => (i.zero, i.size, i.bytes)) = some (some (.int .u32 0), 1, 4) := by kernel_rfl
theorem own_base' {w : World} {base : Nat} {e : TypeId} {size : Nat} {v : Value} {n : Nat} {xs : List Value} (h : w.ownsRow base e size v n xs) : ∀ k, v.ownBlock = some k → base ≤ k := by
  intro k hk
  rcases h.2 with ⟨rfl, _⟩ | ⟨g, cap, cur, rfl, hb, _⟩
  · cases hk
  · have : g = k := by simpa [Value.ownBlock] using hk
    omega
def wds (s : ByteArray) (n : Nat) : List Value := (List.range n).map fun i => .int .u32 (wd s (4 * i))
theorem wds_succ (s : ByteArray) (n : Nat) : wds s (n + 1) = wds s n ++ [.int .u32 (wd s (4 * n))] := by simp [wds, List.range_succ]
set_option maxRecDepth 100000 in
set_option maxHeartbeats 2000000 in
theorem words_any (s : ByteArray) (n : Nat) (w : World) (h : 4 * n ≤ s.size) (hs : s.size ≤ maxLen) (hn : n ≤ 4) (hn0 : 0 < n) :
    Calls Try.prog 47 #[.string s, .int .i64 n] w fun e w' => ∃ v, e = .returned v ∧ w'.ownsRow w.heap.size 94 1 v n (wds s n) ∧ Below w.heap.size w w' := by
  obtain ⟨i0, hi, hz0, hz1, hz2⟩ := info_parts info94
  have RU := Lib.hid (fun (a : Nat) (h : a + 4 ≤ s.size) w => ru_any s a w h hs)
  have hmk : ∀ w : World, (Instr.makeSlice 105 (.int .i64 0) (.int .i64 n)).run Try.prog w = .ok (.slice (some ⟨w.heap.size, 0, none⟩) 0 n) (w.alloc (.cells (Array.replicate n (.int .u32 0)) 94)) := by
    have : n = 1 ∨ n = 2 ∨ n = 3 ∨ n = 4 := by omega
    rcases this with rfl | rfl | rfl | rfl <;> (intro w; kernel_rfl)
  go_enter Try.func47, Try.ntmps47
  go_wp2
  go_loopw [5, 12] (fun v i wr => ∃ k : Nat, k ≤ n ∧ i = .int .i64 k ∧ wr.ownsRow w.heap.size 94 1 v k (wds s k) ∧ Below w.heap.size w wr) (fun _ i _ => n - (intOf i).toNat)
  case atStart => exact ⟨0, Nat.zero_le _, rfl, World.ownsRow_made _ _ _ (Nat.le_refl _) (by unfold maxLen; omega) (by simp), (Below.refl _ _).alloc (Nat.le_refl _) _⟩
  case round =>
    obtain ⟨k, hk, rfl, hown, hB⟩ := hrel
    by_cases hlt : k < n
    · have hw1 : IntKind.i64.wrap ((k : Int) * 4) = ((4 * k : Nat) : Int) := by rw [IntWalk.i64_in _ (by omega)]; simp; omega
      have hr := wd_range s (4 * k)
      have RUk := RU.out (4 * k) (by omega)
      have HS := Lib.hid (wds_succ s k)
      have RUK := Lib.hid RUk
      clear RUk
      generalize wd s (4 * k) = x at *
      obtain ⟨X, hX⟩ : ∃ X, wds s k = X := ⟨_, rfl⟩
      rw [hX] at hown HS
      clear hX
      have hz := hB.size
      have hB' := Lib.hid hB
      clear hB
      go_wp2_with (first | (go_at_call 49; refine (RUK.out _).mono ?_; rintro e w' ⟨rfl, rfl⟩) | (at_builtin; refine wpList_append_own _ rfl _ _ 105 rfl w.heap.size 94 i0 (.int .u32 0) 1 4 Try.underlying105 hi hz0 hz1 hz2 rfl (by decide) _ _ _ rfl (hown.alloc _) ⟨wr.heap.size, 0, none⟩ 1 1 [.int .u32 x] rfl rfl (cell_one_new _ _ _) (by simp [Value.oneCell']) (by unfold maxLen; omega) (by omega) (by simp; omega) ?_; intro v' w1 hown' hgrow _))
      have hb1 : Below w.heap.size w w1 := (hB'.out.alloc hz _).grown hgrow (by simp; omega) (own_base' hown)
      go_roundw
      case rel => exact ⟨k + 1, by omega, by go_num, by rw [HS.out]; simpa using hown', hb1⟩
      case measure => simp [intOf]; omega
    · obtain rfl : k = n := by omega
      clear hlt
      go_wp2
      go_ret
      exact ⟨_, rfl, hown, hB⟩
end Go.Proofs.Ytieiplalnekmkaa
