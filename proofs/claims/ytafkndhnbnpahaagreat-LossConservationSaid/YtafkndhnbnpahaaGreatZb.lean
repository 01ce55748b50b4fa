/- Law 13: New, Next, Acked; clone, Sent and Outstanding at packets without frames. -/
import Derived.Test.YtafkndhnbnpahaaGreatZa
import Derived.Test.YtafkndhnbnpahaaGreatLi
import Derived.WalkSpells
import Derived.Deep.RegionHeld3
namespace Go.Proofs.YtafkndhnbnpahaaGreat
open Go.RowKit Go.Maps
set_option maxRecDepth 100000 in
set_option maxHeartbeats 2000000 in
theorem new_any (w : World) : Calls Tryz.prog 12 #[] w fun e w' => ∃ b M, e = .returned (.pointer (some ⟨b, 0, none⟩)) ∧ w.heap.size ≤ b ∧ w.heap.size ≤ M ∧ RecAt w' b M ⟨[], 0, -1⟩ ∧ Below w.heap.size w w' := by
  have hmm := @run_makeMap Tryz.prog
  have X := Lib.hid (box2 w (.map #[] 0) (.cells #[.map (some w.heap.size), .int .i64 0, .int .i64 (-1)] 75))
  have XM := Lib.hid (MapAt.made w 3)
  go_enter Tryz.func12, Tryz.ntmps12
  go_wp2
  go_ret
  refine ⟨_, w.heap.size, rfl, by omega, Nat.le_refl _, ⟨X.out.2.1, _, (XM.out.alloc _), holds_nil⟩, X.out.2.2.1⟩
set_option maxRecDepth 100000 in
set_option maxHeartbeats 2000000 in
theorem next_any {w : World} {b M : Nat} {R : Rc} (hR : RecAt w b M R) : Calls Tryz.prog 17 #[.pointer (some ⟨b, 0, none⟩)] w fun e w' => e = .returned (.int .i64 R.nx) ∧ w = w' := by
  have c := at_whole hR.1 1 rfl
  simp only [List.getElem_toArray, List.getElem_cons_zero, List.getElem_cons_succ] at c
  clear hR
  go_enter Tryz.func17, Tryz.ntmps17
  go_wp2
  go_ret
  exact ⟨rfl, rfl⟩
set_option maxRecDepth 100000 in
set_option maxHeartbeats 2000000 in
theorem acked_any {w : World} {b M : Nat} {R : Rc} (hR : RecAt w b M R) : Calls Tryz.prog 19 #[.pointer (some ⟨b, 0, none⟩)] w fun e w' => e = .returned (.int .i64 R.lg) ∧ w = w' := by
  have c := at_whole hR.1 2 rfl
  simp only [List.getElem_toArray, List.getElem_cons_zero, List.getElem_cons_succ] at c
  clear hR
  go_enter Tryz.func19, Tryz.ntmps19
  go_wp2
  go_ret
  exact ⟨rfl, rfl⟩
set_option maxRecDepth 100000 in
set_option maxHeartbeats 2000000 in
theorem clone70_nil (w : World) : Calls Tryz.prog 70 #[.slice none 0 0] w fun e w' => e = .returned (.slice none 0 0) ∧ w = w' := by
  have h1 := @Lib.run_eql_slice_nil Tryz.prog
  go_enter Tryz.func70, Tryz.ntmps70
  go_wp2
  go_ret
  exact ⟨rfl, rfl⟩
set_option maxRecDepth 100000 in
set_option maxHeartbeats 2000000 in
theorem clone_nil (p : Pk) (hf : p.fv = .slice none 0 0) (w : World) : Calls Tryz.prog 47 #[p.val] w fun e w' => e = .returned p.val ∧ Below w.heap.size w w' := by
  obtain ⟨pn, time, size, el, fv⟩ := p
  obtain rfl : fv = .slice none 0 0 := hf
  simp only [Pk.val, Pk.cells]
  go_enter Tryz.func47, Tryz.ntmps47
  go_wp2_with (go_at_call 70; refine (clone70_nil _).mono ?_; rintro e w1 ⟨rfl, rfl⟩)
  refine wp_loop_rounds 1 ?_
  rw [rounds_succ]
  go_wp2
  refine bodyPost_ret (v := .agg #[.int .i64 pn, .int .i64 time, .int .i64 size, .bool el, .slice none 0 0]) (by simp [results, Tryz.results47, go_sem]) rfl ⟨rfl, ?_⟩
  exact (((Below.refl _ w).alloc (Nat.le_refl _) _).alloc (by simp) _)
def Rc.add (R : Rc) (p : Pk) : Rc := { R with l := R.l ++ [p], nx := R.nx + 1 }
theorem Rc.Ok.add {R : Rc} (h : R.Ok) (p : Pk) (hp : p.pn = R.nx) (hn : R.nx < 10000) (ht : 0 ≤ p.time ∧ p.time ≤ 1125899906842624) (hf : ∃ a n c, p.fv = .slice a n c) : (R.add p).Ok :=
  ⟨h.up.app p hp h.n0 hf, by have := h.n0; show 0 ≤ R.nx + 1; omega, by show R.nx + 1 ≤ 10000; omega, h.g0, by have := h.g1; show R.lg < R.nx + 1; omega,
   by have := h.len; show ((R.l ++ [p]).length : Int) ≤ R.nx + 1; rw [List.length_append, List.length_singleton]; omega,
   fun q hq => by
    rcases List.mem_append.1 hq with hq | hq
    · exact h.tm q hq
    · rw [List.mem_singleton.1 hq]; exact ht⟩
set_option maxRecDepth 100000 in
set_option maxHeartbeats 4000000 in
theorem sent_nil {w : World} {b M : Nat} {R : Rc} (hR : RecAt w b M R) (ok : R.Ok) (p : Pk) (hf : p.fv = .slice none 0 0) (hp : p.pn = R.nx) (ht : 0 ≤ p.time) (hs : 0 ≤ p.size) :
    Calls Tryz.prog 20 #[.pointer (some ⟨b, 0, none⟩), p.val] w fun e w' => e = .returned (.int .i64 0) ∧ RecAt w' b M (R.add p) ∧ Tu b M w w' := by
  have C := Lib.hid (fun w => clone_nil p hf w)
  have hwf := Lib.hid (pnWf ok.n0 (by have := ok.n1; omega))
  have hup := Lib.hid ok.up
  have hn0 := ok.n0
  have hn1 := ok.n1
  have hn2 : IntKind.i64.wrap (R.nx + 1) = R.nx + 1 := IntWalk.i64_in _ (by omega)
  obtain ⟨pn, time, size, el, fv⟩ := p
  obtain rfl : fv = .slice none 0 0 := hf
  obtain rfl : pn = R.nx := hp
  simp only [Pk.val, Pk.cells] at C ht hs ⊢
  have hb := heap_lt hR.1
  have X := Lib.hid (box1 w (.cells #[.int .i64 R.nx, .int .i64 time, .int .i64 size, .bool el, .slice none 0 0] 32))
  have HR := Lib.hid (hR.below X.out.2.1)
  have x0 := at_whole X.out.1 0 rfl
  have x1 := at_whole X.out.1 1 rfl
  have x2 := at_whole X.out.1 2 rfl
  have x3 := at_whole X.out.1 3 rfl
  have x4 := at_whole X.out.1 4 rfl
  have b0 := at_whole HR.out.1 0 rfl
  have b1 := at_whole HR.out.1 1 rfl
  simp only [List.getElem_toArray, List.getElem_cons_zero, List.getElem_cons_succ] at x0 x1 x2 x3 x4 b0 b1
  have gd : decide (R.nx > 281474976710655) = false := by simp; omega
  have gd2 : (281474976710655 < R.nx) = False := eq_false (by omega)
  have gt : (time < 0) = False := eq_false (by omega)
  have gs : (size < 0) = False := eq_false (by omega)
  clear hR ok
  go_enter Tryz.func20, Tryz.ntmps20
  go_wp2
  generalize w.alloc _ = V at X HR x0 x1 x2 x3 x4 b0 b1 ⊢
  go_quiet (fail)
  go_wp2
  have Y := Lib.hid (show (V.drewN nq).heap[w.heap.size]? = some (.cells #[.int .i64 R.nx, .int .i64 time, .int .i64 size, .bool el, .slice none 0 0] 32 (0, 0)) ∧ Below w.heap.size w (V.drewN nq) ∧ RecAt (V.drewN nq) b M R from ⟨X.out.1, belowN X.out.2.1 _, HR.out.1, HR.out.2.of_block rfl⟩)
  clear x0 x1 x2 x3 x4 b0 b1 X HR
  generalize V.drewN nq = V2 at Y ⊢
  have x0 := at_whole Y.out.1 0 rfl
  have x1 := at_whole Y.out.1 1 rfl
  have x2 := at_whole Y.out.1 2 rfl
  have x3 := at_whole Y.out.1 3 rfl
  have x4 := at_whole Y.out.1 4 rfl
  have b0 := at_whole Y.out.2.2.1 0 rfl
  simp only [List.getElem_toArray, List.getElem_cons_zero, List.getElem_cons_succ] at x0 x1 x2 x3 x4 b0
  have HS := Lib.hid (show ∀ w', Keep V2 w' → (w'.cell? ⟨b, 0, none⟩ = some (.map (some M)) ∧ w'.cell? ⟨w.heap.size, 0, none⟩ = some (.int .i64 R.nx) ∧ w'.cell? ⟨w.heap.size, 1, none⟩ = some (.int .i64 time) ∧ w'.cell? ⟨w.heap.size, 2, none⟩ = some (.int .i64 size) ∧ w'.cell? ⟨w.heap.size, 3, none⟩ = some (.bool el) ∧ w'.cell? ⟨w.heap.size, 4, none⟩ = some (.slice none 0 0)) from
    fun w' h => ⟨at_whole (h _ _ _ Y.out.2.2.1) 0 rfl, at_whole (h _ _ _ Y.out.1) 0 rfl, at_whole (h _ _ _ Y.out.1) 1 rfl, at_whole (h _ _ _ Y.out.1) 2 rfl, at_whole (h _ _ _ Y.out.1) 3 rfl, at_whole (h _ _ _ Y.out.1) 4 rfl⟩)
  have UP := Lib.hid (show ∀ w1, Below V2.drew.heap.size V2.drew w1 → ∃ w3, (Instr.mapUpdate 73 (.map (some M)) (.int .i64 R.nx) (.agg #[.int .i64 R.nx, .int .i64 time, .int .i64 size, .bool el, .slice none 0 0])).run Tryz.prog w1 = .ok () w3 ∧ MapPk w3 M (R.nx.toNat + 1) (R.l ++ [⟨R.nx, time, size, el, .slice none 0 0⟩]) ∧ w1.grownBy w3 (some M) ∧ Keep V2 w3 from fun w1 h => by
    obtain ⟨D, hD, hH⟩ := (Y.out.2.2.below (below_drew h)).2
    obtain ⟨w3, h1, h2, h3⟩ := hD.put (t := 73) (e := 32) (Maps.int_keyed Tryz.underlying3) Tryz.underlying73 (by unfold maxLen; omega) (.agg #[.int .i64 R.nx, .int .i64 time, .int .i64 size, .bool el, .slice none 0 0]) (Maps.keyOf_int_mk Tryz.underlying3 hwf.out)
    exact ⟨w3, h1, ⟨_, h2, hH.put hup.out ⟨R.nx, time, size, el, .slice none 0 0⟩ rfl⟩, h3, fun x y z hh => keep_map hD h3 x y z (keep_below (below_drew h) x y z hh)⟩)
  go_region_held3 (fun w' => w'.cell? ⟨b, 0, none⟩ = some (.map (some M)) ∧ w'.cell? ⟨w.heap.size, 0, none⟩ = some (.int .i64 R.nx) ∧ w'.cell? ⟨w.heap.size, 1, none⟩ = some (.int .i64 time) ∧ w'.cell? ⟨w.heap.size, 2, none⟩ = some (.int .i64 size) ∧ w'.cell? ⟨w.heap.size, 3, none⟩ = some (.bool el) ∧ w'.cell? ⟨w.heap.size, 4, none⟩ = some (.slice none 0 0))
    (first | exact HS.out _ (keep_below (Below.refl V2.heap.size V2).drew) | exact HS.out _ (keep_below (below_drew hb1)) | exact HS.out _ hk3)
    (first | (go_at_call 47; refine (C.out _).mono ?_; rintro e w1 ⟨rfl, hb1⟩; obtain ⟨w3, hrun, hm3, hg3, hk3⟩ := UP.out _ hb1))
  have R3 := Lib.hid (show w3.heap[b]? = some (.cells #[.map (some M), .int .i64 R.nx, .int .i64 R.lg] 75 (0, 0)) from hk3 _ _ _ Y.out.2.2.1)
  have T3 := Lib.hid (show Tu b M w w3 from (Tu.below Y.out.2.1).trans ((Tu.below (below_drew hb1)).trans (Tu.map hg3)))
  have M3 := Lib.hid hm3
  have d1 := at_whole R3.out 1 rfl
  have f1 := frozen_whole R3.out 1
  simp only [List.getElem_toArray, List.getElem_cons_zero, List.getElem_cons_succ] at d1
  clear hrun hm3 hg3 hk3 hb1 x0 x1 x2 x3 x4 b0
  go_wp2
  go_ret
  refine ⟨rfl, ⟨?_, ?_⟩, T3.out.trans (Tu.set _ _ _)⟩
  · exact (heap_set (.int .i64 (R.nx + 1)) R3.out)
  · obtain ⟨D, hD, hH⟩ := M3.out
    have hne : M ≠ b := fun e => by
      subst e
      have := hD.no_cells R3.out
      cases this
    have e : (R.nx + 1).toNat = R.nx.toNat + 1 := by omega
    exact MapPk.of_block (w := w3) (by show MapPk w3 M (R.nx + 1).toNat _; rw [e]; exact M3.out) (heap_setCell_other _ _ _ _ (fun e => hne e))
end Go.Proofs.YtafkndhnbnpahaaGreat
