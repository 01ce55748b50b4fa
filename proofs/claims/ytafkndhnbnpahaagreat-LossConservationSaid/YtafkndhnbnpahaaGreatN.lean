/- Law 13: strings.Builder. -/
import Derived.Test.YtafkndhnbnpahaaGreatM
import Derived.Lib.Builder
import Derived.Lib.AppendStr
namespace Go.Proofs.YtafkndhnbnpahaaGreat
open Go.RowKit
theorem size147 : (Tryz.prog.info? 147).map (·.size) = some 2 := by kernel_rfl
set_option maxRecDepth 100000 in
set_option maxHeartbeats 2000000 in
theorem check_used (b : Nat) (w : World) (h0 : w.cell? ⟨b, 0, none⟩ = some (.pointer (some ⟨b, 0, none⟩))) : Calls Tryz.prog 138 #[.pointer (some ⟨b, 0, none⟩)] w fun e w' => e = .returned (.tuple #[]) ∧ w' = w := by
  obtain ⟨j, hj, hjs⟩ := Option.map_eq_some_iff.1 size147
  go_enter Tryz.func138, Tryz.ntmps138
  go_wp2
  rw [Lib.run_neq_ptr_same w _ Tryz.underlying145 hj]
  go_wp2
  go_end0
  exact ⟨rfl, rfl⟩
set_option maxRecDepth 100000 in
set_option maxHeartbeats 2000000 in
theorem check_new (b : Nat) (w : World) (h0 : w.cell? ⟨b, 0, none⟩ = some (.pointer none)) (hsh : w.shape? b = some (147, 2)) (hfz : w.frozen? ⟨b, 0, none⟩ = false) :
    Calls Tryz.prog 138 #[.pointer (some ⟨b, 0, none⟩)] w fun e w' => e = .returned (.tuple #[]) ∧ w' = w.setCell ⟨b, 0, none⟩ (.pointer (some ⟨b, 0, none⟩)) := by
  obtain ⟨j, hj, hjs⟩ := Option.map_eq_some_iff.1 size147
  go_enter Tryz.func138, Tryz.ntmps138
  go_wp2
  rw [Lib.run_to_unsafe w ⟨b, 0, none⟩ Tryz.underlying145 Tryz.underlying181 hj (by rw [hjs]; decide) hsh (Nat.zero_lt_succ 1)]
  simp only [Result.andThen]
  rw [Oper.upon_value]
  go_wp2
  rw [run_callFunc_extern Tryz.func149 (by kernel_rfl) (by kernel_rfl) (by kernel_rfl) (e := Extern.AbiNoEscape.same) (by kernel_rfl)]
  rw [Lib.run_noEscape]
  simp only [Result.andThen]
  rw [Oper.upon_value]
  go_wp2
  rw [Lib.run_from_unsafe w ⟨b, 0, none⟩ Tryz.underlying181 Tryz.underlying145 hj hsh (by kernel_rfl)]
  simp only [Result.andThen]
  rw [Oper.upon_value]
  go_wp2
  go_end0
  exact ⟨rfl, rfl⟩
/-- blocks of cells of another type than a byte's stay, but for block b -/
def Apart (b : Nat) (w w' : World) : Prop := ∀ (k : Nat) (cs : Array Value) (T : TypeId) (fz : Nat × Nat), w.heap[k]? = some (.cells cs T fz) → k ≠ b → T ≠ 5 → w'.heap[k]? = some (.cells cs T fz)
theorem Apart.refl (b : Nat) (w : World) : Apart b w w := fun _ _ _ _ h _ _ => h
theorem Apart.trans {b : Nat} {w w' w'' : World} (h : Apart b w w') (k : Apart b w' w'') : Apart b w w'' := fun _ _ _ _ h1 h2 h3 => k _ _ _ _ (h _ _ _ _ h1 h2 h3) h2 h3
theorem Apart.set (b i : Nat) (w : World) (v : Value) : Apart b w (w.setCell ⟨b, i, none⟩ v) := fun k _ _ _ h1 h2 _ => (heap_setCell_other w _ k v (fun e => h2 e)).trans h1
theorem Apart.below {b : Nat} {w w' : World} (h : Below w.heap.size w w') : Apart b w w' := fun _ _ _ _ h1 _ _ => heap_below h h1
theorem Apart.row {b B n : Nat} {w w' : World} {v : Value} {xs : List Value} (hown : w.ownsRow B 5 1 v n xs) (hg : w.grownBy w' v.ownBlock) : Apart b w w' := by
  intro k cs T fz h1 _ h3
  rw [hg.block k (heap_lt h1) ?_]
  · exact h1
  · intro e
    rcases hown.2 with ⟨rfl, _⟩ | ⟨g, cap, cur, rfl, hb, hgg, _⟩
    · simp [Value.ownBlock] at e
    · simp [Value.ownBlock] at e
      subst e
      rw [hgg] at h1
      cases h1
      exact h3 rfl
theorem check_any (B b : Nat) (bs : List Value) (w : World) (h : Lib.IsBuilder 147 5 B b bs w) :
    Calls Tryz.prog 138 #[.pointer (some ⟨b, 0, none⟩)] w fun e w' => e = .returned (.tuple #[]) ∧ Lib.BuilderAt 147 5 B b (.pointer (some ⟨b, 0, none⟩)) bs w' ∧ Below B w w' ∧ Apart b w w' := by
  rcases h with h | h
  · refine (check_new b w h.cell0 h.shape h.frozen0).mono ?_
    rintro e w' ⟨rfl, rfl⟩
    exact ⟨rfl, h.used _, (Below.refl B w).setCell (p := ⟨b, 0, none⟩) h.1 _, Apart.set _ _ _ _⟩
  · refine (check_used b w h.cell0).mono ?_
    rintro e w' ⟨rfl, rfl⟩
    exact ⟨rfl, h, Below.refl B _, Apart.refl _ _⟩
set_option maxRecDepth 100000 in
set_option maxHeartbeats 2000000 in
theorem write_any (B b : Nat) (bs : List Value) (s : ByteArray) (w : World) (h : Lib.IsBuilder 147 5 B b bs w) (hlen : bs.length + s.size ≤ 140737488355328) (hBw : B ≤ w.heap.size) :
    Calls Tryz.prog 118 #[.pointer (some ⟨b, 0, none⟩), .string s] w fun e w' => e = .returned (.tuple #[.int .i64 s.size, .nilIface]) ∧ Lib.BuilderAt 147 5 B b (.pointer (some ⟨b, 0, none⟩)) (bs ++ Lib.strCells s) w' ∧ Below B w w' ∧ Apart b w w' := by
  obtain ⟨i0, hi, hz0, hz1, hz2⟩ := info_parts (show (Tryz.prog.info? 5).map (fun i => (i.zero, i.size, i.bytes)) = some (some (.int .u8 0), 1, 1) by kernel_rfl)
  go_enter Tryz.func118, Tryz.ntmps118
  go_wp2_with (go_at_call 138; refine (check_any B b bs _ h).mono ?_)
  rintro e w1 ⟨rfl, h1, hb1, ha1⟩
  have HA1 := Lib.hid ha1
  clear ha1
  obtain ⟨hB, v, hbk, hown, hne⟩ := h1
  have c0 : w1.cell? ⟨b, 0, none⟩ = some (.pointer (some ⟨b, 0, none⟩)) := at_whole hbk 0 rfl
  have c1 : w1.cell? ⟨b, 1, none⟩ = some v := at_whole hbk 1 rfl
  go_wp2_with (at_builtin; refine Lib.wpList_append_own_string _ rfl _ _ 119 9 rfl B 5 i0 Tryz.underlying119 Tryz.underlying9 hi hz0 hz1 hz2 _ _ _ rfl hown s rfl ?c3 ?c4 ?c5 ?_)
  case c3 => unfold maxLen; omega
  case c4 => omega
  case c5 => have := hb1.size; omega
  intro v' w2 hown' hgrow _
  have hb2 : w2.heap[b]? = some (.cells #[.pointer (some ⟨b, 0, none⟩), v] 147 (0, 0)) := by
    rw [hgrow.block b (heap_lt hbk) (fun e => hne e.symm)]
    exact hbk
  have d0 : w2.cell? ⟨b, 0, none⟩ = some (.pointer (some ⟨b, 0, none⟩)) := at_whole hb2 0 rfl
  have d1 : w2.cell? ⟨b, 1, none⟩ = some v := at_whole hb2 1 rfl
  have f1 : w2.frozen? ⟨b, 1, none⟩ = false := frozen_whole hb2 1
  obtain ⟨ao, n', cap, rfl⟩ : ∃ ao n' cap, v' = .slice ao n' cap := by
    rcases hown'.2 with ⟨hv, _⟩ | ⟨g, cap, cur, hv, _⟩
    · exact ⟨_, _, _, hv⟩
    · exact ⟨_, _, _, hv⟩
  go_wp2
  go_ret2
  refine ⟨rfl, ?_, ?_, (HA1.out.trans (Apart.row hown hgrow)).trans (Apart.set _ _ _ _)⟩
  · exact Lib.BuilderAt.put (T := 147) (e := 5) hB hb2 (bs' := bs ++ Lib.strCells s) (by simpa [Lib.strCells_length] using hown') (by decide)
  · exact (hb1.grown hgrow (by have := hb1.size; omega) (fun k hk => (hown.lt k hk).1)).setCell (p := ⟨b, 1, none⟩) hB _
end Go.Proofs.YtafkndhnbnpahaaGreat
