/- Law 13: number: a value's bytes. -/
import Derived.Test.YtafkndhnbnpahaaGreatK
namespace Go.Proofs.YtafkndhnbnpahaaGreat
open Go.RowKit
set_option maxRecDepth 100000 in
set_option maxHeartbeats 2000000 in
theorem number_any (n lim : Int) (w : World) (h0 : 0 ≤ n) (hl : n ≤ lim) (hm : n ≤ 4611686018427387903) : Calls Tryz.prog 107 #[.int .i64 n, .int .i64 lim] w fun e w' => e = .returned (.string (strOfNums (encV n))) ∧ Below w.heap.size w w' := by
  have hg : decide (n > lim) = false := by simp; omega
  have hg' : (lim < n) = False := eq_false (by omega)
  have E := Lib.hid (enc_any n w (by unfold cls; split; omega; split; omega; split; omega; split; omega; omega))
  go_enter Tryz.func107, Tryz.ntmps107
  go_wp2_with (go_at_call 136; refine E.out.mono ?_; rintro e w1 ⟨rfl, hb⟩)
  all_goals (try (simp at hg; omega))
  go_ret
  exact ⟨rfl, hb⟩
end Go.Proofs.YtafkndhnbnpahaaGreat
