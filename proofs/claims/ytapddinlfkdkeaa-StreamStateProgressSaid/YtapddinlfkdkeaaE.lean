import Derived.Test.YtapddinlfkdkeaaD
namespace Go.Proofs
open Go.RowKit Go.Shelf
attribute [local go_sem] Oper.semAt_some

set_option maxRecDepth 100000 in
set_option maxHeartbeats 2000000 in
theorem recv_inA (s v : Int) (w : World) (t1 : (s == 5) = true) (t2 : (v == 6) = false) (t3 : (v == 9) = false) :
    CallsIn Fence.wide 3 Try.prog 11 #[.int .i64 s, .int .i64 v] w fun e W' => e = .returned (back (hits recvTab s v)) ∧ Below w.heap.size w W' := by
  refine callsIn_of_wp_marks Try.func11 rfl trivial ?_ rfl
  simp only [Try.ntmps11, List.size_toArray, List.length_cons, List.length_nil, Nat.reduceAdd, Nat.reduceSub, Array.replicate_succ, Array.replicate_zero, List.push_toArray, List.append_toArray, List.nil_append, List.cons_append]
  gi_wp2_with (first | (refine ⟨trivial, ?_⟩; gi_at_call 21; refine (callsIn_wide.2 (receiving_any _)).mono ?_; rintro e w' ⟨rfl, rfl⟩) | (refine ⟨trivial, ?_⟩; gi_at_call 20; refine (of_in Fence.wide _ trivial rfl (tabCells recvTab) (by kernel_rfl) _ _ _).mono ?_; rintro e w' ⟨rfl, rfl⟩))
  have h0 := six_0 w (tabCells recvTab) s v
  have h1 := six_1 w (tabCells recvTab) s v
  have h3 := six_3 w (tabCells recvTab) s v
  have h4 := six_4 w (tabCells recvTab) s v
  have h5 := six_5 w (tabCells recvTab) s v
  have hz := six_size w (tabCells recvTab) s v
  have hB0 := six_below w (tabCells recvTab) s v
  obtain ⟨W0, hW0⟩ : ∃ W0, six w (tabCells recvTab) s v = W0 := ⟨_, rfl⟩
  have hW0' := hW0
  unfold six at hW0'
  rw [hW0'] 
  rw [hW0] at h0 h1 h3 h4 h5 hz hB0
  clear hW0 hW0'
  refine wpIn_rangeFunc_ownF rfl (by omega) (gf := 22) (lb := #[.pointer (some ⟨w.heap.size + 1 + 1 + 1, 0, none⟩), .pointer (some ⟨w.heap.size + 1 + 1 + 1 + 1, 0, none⟩), .pointer (some ⟨w.heap.size + 1 + 1 + 1 + 1 + 1, 0, none⟩)]) rfl trivial (enters_of Try.func22 (by kernel_rfl) rfl)
    (of_stops Fence.wide _ trivial rfl (by omega) _ _ _ recvTab rfl s v W0 (by omega) (by omega) (by omega) h3 (cell_of_heap h4) (cell_of_heap h5)) belowK_t (belowK_b (by omega)) (Below.refl _ _) (fun _ => rfl)
    (fun pre W => (pre = [] ∧ Cell01 W w.heap.size 0 0) ∧ Below w.heap.size w W)
    (fun c pre W => ((c = .ret ∧ pre.length = 1) ∧ Cell01 W w.heap.size (pre.headD 0) 0) ∧ Below w.heap.size w W)
    (OwnFrom.and (Own.from (Cell01.own (fun _ => (0, 0)) _ _) _) (ownFrom_below (Nat.le_refl _) (by omega)))
    (fun c => OwnFrom.and (Own.from (Cell01.own (fun (pre : List Int) => (pre.headD 0, 0)) _ _) _) (ownFrom_below (Nat.le_refl _) (by omega)))
    ⟨⟨rfl, cell_of_heap h0, frozen_of_heap h0, cell_of_heap h1, frozen_of_heap h1⟩, hB0⟩
    (fun x => { tmps := #[.int .i64 s, .int .i64 v, undef, undef, .pointer (some ⟨w.heap.size, 0, none⟩), .pointer (some ⟨w.heap.size + 1, 0, none⟩), .int .i64 x, .int .i64 s, .bool true, .bool true, .int .i64 v, .bool false, .bool false, .int .i64 v, .bool false, .bool false, .bool false, undef, .agg (tabCells recvTab), .int .i64 s, .int .i64 v, .func (.func 22) #[] #[.pointer (some ⟨w.heap.size + 1 + 1 + 1, 0, none⟩), .pointer (some ⟨w.heap.size + 1 + 1 + 1 + 1, 0, none⟩), .pointer (some ⟨w.heap.size + 1 + 1 + 1 + 1 + 1, 0, none⟩)], .int .i64 x, undef], defers := [] }) ?assign ?body ?done ?stop
  case assign =>
    intro l x W K hK
    gi_wp2
    exact hK
  case body =>
    rintro l pre x W ⟨⟨rfl, hc0, hf0, hc1, hf1⟩, hB⟩ _
    gi_wp2
    refine ⟨(KeepsOthers.setCell _ _ _).trans (KeepsOthers.setCell _ _ _), ⟨⟨rfl, rfl⟩, ?_, ?_, ?_, ?_⟩, (hB.setCell (p := ⟨w.heap.size, 0, none⟩) (Nat.le_refl _) _).setCell (p := ⟨w.heap.size + 1, 0, none⟩) (by simp) _⟩
    all_goals go_cell
  case done =>
    rintro D ys W hD hS ⟨⟨rfl, hc0, hf0, hc1, hf1⟩, hB⟩ hK
    gi_wp2
    have hK' := ((KeepsOthers.setCell W ⟨w.heap.size, 0, none⟩ (.int .i64 0)).trans (KeepsOthers.setCell _ ⟨w.heap.size + 1, 0, none⟩ (.int .i64 180))).same D _ hK rfl
    refine ⟨by simp, .inl ⟨_, _, rfl, run_takeDeferred hK', ?_⟩⟩
    obtain ⟨W', hW'⟩ : ∃ W', ((W.setCell ⟨w.heap.size, 0, none⟩ (.int .i64 0)).setCell ⟨w.heap.size + 1, 0, none⟩ (.int .i64 180)) = W' := ⟨_, rfl⟩
    have g0 : W'.cell? ⟨w.heap.size, 0, none⟩ = some (.int .i64 0) := by rw [← hW']; go_cell
    have g1 : W'.cell? ⟨w.heap.size + 1, 0, none⟩ = some (.int .i64 180) := by rw [← hW']; go_cell
    have hB' : Below w.heap.size w W' := by rw [← hW']; exact (hB.setCell (p := ⟨w.heap.size, 0, none⟩) (Nat.le_refl _) _).setCell (p := ⟨w.heap.size + 1, 0, none⟩) (by simp) _
    rw [hW'] at hK' ⊢
    have e0 := cell_kept g0 (grownBy_putObj' _ D (.deferred none)) (fun r e => by cases e; exact ⟨_, hK', rfl⟩)
    have e1 := cell_kept g1 (grownBy_putObj' _ D (.deferred none)) (fun r e => by cases e; exact ⟨_, hK', rfl⟩)
    refine ⟨.tuple #[.int .i64 0, .int .i64 180], ?_, by rw [← hS]; rfl, hB'.trans (belowK_b (w := w) (Nat.le_refl _) _ D _ _ (by omega) hK' rfl rfl)⟩
    simp [results, Try.f11, go_sem, e0, e1]
  case stop =>
    rintro D c pre W hD ⟨hpre, hne⟩ ⟨⟨⟨rfl, hl⟩, hc0, hf0, hc1, hf1⟩, hB⟩ hK
    gi_wp2
    refine ⟨by simp, .inl ⟨_, _, rfl, run_takeDeferred hK, ?_⟩⟩
    have e0 := cell_kept hc0 (grownBy_putObj' _ D (.deferred none)) (fun r e => by cases e; exact ⟨_, hK, rfl⟩)
    have e1 := cell_kept hc1 (grownBy_putObj' _ D (.deferred none)) (fun r e => by cases e; exact ⟨_, hK, rfl⟩)
    obtain ⟨x, rfl⟩ := List.length_eq_one_iff.1 hl
    obtain ⟨t, ht⟩ := hpre
    refine ⟨.tuple #[.int .i64 x, .int .i64 0], ?_, by rw [← ht]; rfl, hB.trans (belowK_b (w := w) (Nat.le_refl _) W D _ _ (by omega) hK rfl rfl)⟩
    simp [results, Try.f11, go_sem, e0, e1]
set_option maxRecDepth 100000 in
set_option maxHeartbeats 2000000 in
theorem recv_inB (s v : Int) (w : World) (t1 : (s == 5) = false) :
    CallsIn Fence.wide 3 Try.prog 11 #[.int .i64 s, .int .i64 v] w fun e W' => e = .returned (back (hits recvTab s v)) ∧ Below w.heap.size w W' := by
  refine callsIn_of_wp_marks Try.func11 rfl trivial ?_ rfl
  simp only [Try.ntmps11, List.size_toArray, List.length_cons, List.length_nil, Nat.reduceAdd, Nat.reduceSub, Array.replicate_succ, Array.replicate_zero, List.push_toArray, List.append_toArray, List.nil_append, List.cons_append]
  gi_wp2_with (first | (refine ⟨trivial, ?_⟩; gi_at_call 21; refine (callsIn_wide.2 (receiving_any _)).mono ?_; rintro e w' ⟨rfl, rfl⟩) | (refine ⟨trivial, ?_⟩; gi_at_call 20; refine (of_in Fence.wide _ trivial rfl (tabCells recvTab) (by kernel_rfl) _ _ _).mono ?_; rintro e w' ⟨rfl, rfl⟩))
  have h0 := six_0 w (tabCells recvTab) s v
  have h1 := six_1 w (tabCells recvTab) s v
  have h3 := six_3 w (tabCells recvTab) s v
  have h4 := six_4 w (tabCells recvTab) s v
  have h5 := six_5 w (tabCells recvTab) s v
  have hz := six_size w (tabCells recvTab) s v
  have hB0 := six_below w (tabCells recvTab) s v
  obtain ⟨W0, hW0⟩ : ∃ W0, six w (tabCells recvTab) s v = W0 := ⟨_, rfl⟩
  have hW0' := hW0
  unfold six at hW0'
  rw [hW0'] 
  rw [hW0] at h0 h1 h3 h4 h5 hz hB0
  clear hW0 hW0'
  refine wpIn_rangeFunc_ownF rfl (by omega) (gf := 22) (lb := #[.pointer (some ⟨w.heap.size + 1 + 1 + 1, 0, none⟩), .pointer (some ⟨w.heap.size + 1 + 1 + 1 + 1, 0, none⟩), .pointer (some ⟨w.heap.size + 1 + 1 + 1 + 1 + 1, 0, none⟩)]) rfl trivial (enters_of Try.func22 (by kernel_rfl) rfl)
    (of_stops Fence.wide _ trivial rfl (by omega) _ _ _ recvTab rfl s v W0 (by omega) (by omega) (by omega) h3 (cell_of_heap h4) (cell_of_heap h5)) belowK_t (belowK_b (by omega)) (Below.refl _ _) (fun _ => rfl)
    (fun pre W => (pre = [] ∧ Cell01 W w.heap.size 0 0) ∧ Below w.heap.size w W)
    (fun c pre W => ((c = .ret ∧ pre.length = 1) ∧ Cell01 W w.heap.size (pre.headD 0) 0) ∧ Below w.heap.size w W)
    (OwnFrom.and (Own.from (Cell01.own (fun _ => (0, 0)) _ _) _) (ownFrom_below (Nat.le_refl _) (by omega)))
    (fun c => OwnFrom.and (Own.from (Cell01.own (fun (pre : List Int) => (pre.headD 0, 0)) _ _) _) (ownFrom_below (Nat.le_refl _) (by omega)))
    ⟨⟨rfl, cell_of_heap h0, frozen_of_heap h0, cell_of_heap h1, frozen_of_heap h1⟩, hB0⟩
    (fun x => { tmps := #[.int .i64 s, .int .i64 v, undef, undef, .pointer (some ⟨w.heap.size, 0, none⟩), .pointer (some ⟨w.heap.size + 1, 0, none⟩), .int .i64 x, .int .i64 s, .bool false, .bool false, undef, undef, undef, undef, undef, undef, .bool false, undef, .agg (tabCells recvTab), .int .i64 s, .int .i64 v, .func (.func 22) #[] #[.pointer (some ⟨w.heap.size + 1 + 1 + 1, 0, none⟩), .pointer (some ⟨w.heap.size + 1 + 1 + 1 + 1, 0, none⟩), .pointer (some ⟨w.heap.size + 1 + 1 + 1 + 1 + 1, 0, none⟩)], .int .i64 x, undef], defers := [] }) ?assign ?body ?done ?stop
  case assign =>
    intro l x W K hK
    gi_wp2
    exact hK
  case body =>
    rintro l pre x W ⟨⟨rfl, hc0, hf0, hc1, hf1⟩, hB⟩ _
    gi_wp2
    refine ⟨(KeepsOthers.setCell _ _ _).trans (KeepsOthers.setCell _ _ _), ⟨⟨rfl, rfl⟩, ?_, ?_, ?_, ?_⟩, (hB.setCell (p := ⟨w.heap.size, 0, none⟩) (Nat.le_refl _) _).setCell (p := ⟨w.heap.size + 1, 0, none⟩) (by simp) _⟩
    all_goals go_cell
  case done =>
    rintro D ys W hD hS ⟨⟨rfl, hc0, hf0, hc1, hf1⟩, hB⟩ hK
    gi_wp2
    have hK' := ((KeepsOthers.setCell W ⟨w.heap.size, 0, none⟩ (.int .i64 0)).trans (KeepsOthers.setCell _ ⟨w.heap.size + 1, 0, none⟩ (.int .i64 180))).same D _ hK rfl
    refine ⟨by simp, .inl ⟨_, _, rfl, run_takeDeferred hK', ?_⟩⟩
    obtain ⟨W', hW'⟩ : ∃ W', ((W.setCell ⟨w.heap.size, 0, none⟩ (.int .i64 0)).setCell ⟨w.heap.size + 1, 0, none⟩ (.int .i64 180)) = W' := ⟨_, rfl⟩
    have g0 : W'.cell? ⟨w.heap.size, 0, none⟩ = some (.int .i64 0) := by rw [← hW']; go_cell
    have g1 : W'.cell? ⟨w.heap.size + 1, 0, none⟩ = some (.int .i64 180) := by rw [← hW']; go_cell
    have hB' : Below w.heap.size w W' := by rw [← hW']; exact (hB.setCell (p := ⟨w.heap.size, 0, none⟩) (Nat.le_refl _) _).setCell (p := ⟨w.heap.size + 1, 0, none⟩) (by simp) _
    rw [hW'] at hK' ⊢
    have e0 := cell_kept g0 (grownBy_putObj' _ D (.deferred none)) (fun r e => by cases e; exact ⟨_, hK', rfl⟩)
    have e1 := cell_kept g1 (grownBy_putObj' _ D (.deferred none)) (fun r e => by cases e; exact ⟨_, hK', rfl⟩)
    refine ⟨.tuple #[.int .i64 0, .int .i64 180], ?_, by rw [← hS]; rfl, hB'.trans (belowK_b (w := w) (Nat.le_refl _) _ D _ _ (by omega) hK' rfl rfl)⟩
    simp [results, Try.f11, go_sem, e0, e1]
  case stop =>
    rintro D c pre W hD ⟨hpre, hne⟩ ⟨⟨⟨rfl, hl⟩, hc0, hf0, hc1, hf1⟩, hB⟩ hK
    gi_wp2
    refine ⟨by simp, .inl ⟨_, _, rfl, run_takeDeferred hK, ?_⟩⟩
    have e0 := cell_kept hc0 (grownBy_putObj' _ D (.deferred none)) (fun r e => by cases e; exact ⟨_, hK, rfl⟩)
    have e1 := cell_kept hc1 (grownBy_putObj' _ D (.deferred none)) (fun r e => by cases e; exact ⟨_, hK, rfl⟩)
    obtain ⟨x, rfl⟩ := List.length_eq_one_iff.1 hl
    obtain ⟨t, ht⟩ := hpre
    refine ⟨.tuple #[.int .i64 x, .int .i64 0], ?_, by rw [← ht]; rfl, hB.trans (belowK_b (w := w) (Nat.le_refl _) W D _ _ (by omega) hK rfl rfl)⟩
    simp [results, Try.f11, go_sem, e0, e1]

def pairV (p : Int × Int) : Value := .tuple #[.int .i64 p.1, .int .i64 p.2]
def backP (l : List Int) : Int × Int := match l.head? with | some x => (x, 0) | none => (0, 180)
theorem back_eq (l : List Int) : back l = pairV (backP l) := by unfold back pairV backP; cases l <;> rfl
def sF (s v : Int) : Int × Int := backP (hits sendTab s v)
def rF (s v : Int) : Int × Int := if s = 5 ∧ (v = 6 ∨ v = 9) then (5, 0) else backP (hits recvTab s v)
theorem send_any (s v : Int) (w : World) : Calls Try.prog 9 #[.int .i64 s, .int .i64 v] w fun e w' => e = .returned (.tuple #[.int .i64 (sF s v).1, .int .i64 (sF s v).2]) ∧ Below w.heap.size w w' :=
  (callsIn_wide.1 (send_in s v w)).mono fun e w' ⟨he, hb⟩ => ⟨by rw [he, back_eq]; rfl, hb⟩
theorem recv_pre (s v : Int) (w : World) (h : s = 5 ∧ (v = 6 ∨ v = 9)) : Calls Try.prog 11 #[.int .i64 s, .int .i64 v] w fun e w' => e = .returned (.tuple #[.int .i64 5, .int .i64 0]) ∧ Below w.heap.size w w' := by
  obtain ⟨rfl, rfl | rfl⟩ := h
  all_goals
    go_enter Try.func11, Try.ntmps11
    go_wp2
    refine bodyPost_ret (v := .tuple #[.int .i64 5, .int .i64 0]) (by simp [results, Try.results11, go_sem]) rfl ⟨rfl, ?_⟩
    exact ((Below.refl _ _).alloc (Nat.le_refl _) _).alloc (by simp) _
theorem recv_any (s v : Int) (w : World) : Calls Try.prog 11 #[.int .i64 s, .int .i64 v] w fun e w' => e = .returned (.tuple #[.int .i64 (rF s v).1, .int .i64 (rF s v).2]) ∧ Below w.heap.size w w' := by
  by_cases h : s = 5 ∧ (v = 6 ∨ v = 9)
  · have e : rF s v = (5, 0) := by simp [rF, h]
    rw [e]; exact recv_pre s v w h
  · have e : rF s v = backP (hits recvTab s v) := by simp only [rF, h, if_false]
    have hb := back_eq (hits recvTab s v)
    by_cases h5 : s = 5
    · exact (callsIn_wide.1 (recv_inA s v w (by simp [h5]) (by simp; intro h'; exact h ⟨h5, .inl h'⟩) (by simp; intro h'; exact h ⟨h5, .inr h'⟩))).mono fun e' w' ⟨he, hbl⟩ => ⟨by rw [he, hb, e]; rfl, hbl⟩
    · exact (callsIn_wide.1 (recv_inB s v w (by simp [h5]))).mono fun e' w' ⟨he, hbl⟩ => ⟨by rw [he, hb, e]; rfl, hbl⟩

/-! the small ones -/
def sdF (s : Int) : Bool := s == 4 || s == 5
theorem sendDone_any (s : Int) (w : World) : Calls Try.prog 13 #[.int .i64 s] w fun e w' => e = .returned (.bool (sdF s)) ∧ w = w' := by
  go_enter Try.func13, Try.ntmps13
  go_wp2
  all_goals
    go_ret
    exact ⟨by simp_all [sdF], rfl⟩
theorem refSendDone_any (s : Int) (w : World) : Calls Try.prog 14 #[.int .i64 s] w fun e w' => e = .returned (.bool (sdF s)) ∧ w = w' := by
  go_enter Try.func14, Try.ntmps14
  go_wp2
  all_goals
    go_ret
    exact ⟨by simp_all [sdF], rfl⟩
theorem recvDone_any (s : Int) (w : World) : Calls Try.prog 15 #[.int .i64 s] w fun e w' => e = .returned (.bool (sdF s)) ∧ w = w' := by
  go_enter Try.func15, Try.ntmps15
  go_wp2
  all_goals
    go_ret
    exact ⟨by simp_all [sdF], rfl⟩
theorem refRecvDone_any (s : Int) (w : World) : Calls Try.prog 16 #[.int .i64 s] w fun e w' => e = .returned (.bool (sdF s)) ∧ w = w' := by
  go_enter Try.func16, Try.ntmps16
  go_wp2
  all_goals
    go_ret
    exact ⟨by simp_all [sdF], rfl⟩
def pickF (c n : Int) : Int := if c < 0 then (-(c+1)) % n else c % n
theorem pickF_range (c n : Int) (h : 1 ≤ n) : 0 ≤ pickF c n ∧ pickF c n < n := by
  unfold pickF; split
  · exact ⟨Int.emod_nonneg _ (by omega), Int.emod_lt_of_pos _ (by omega)⟩
  · exact ⟨Int.emod_nonneg _ (by omega), Int.emod_lt_of_pos _ (by omega)⟩
theorem pick_any (c n : Int) (w : World) (hc : -9223372036854775808 ≤ c) (hc' : c ≤ 9223372036854775807) (hn : 1 ≤ n) (hn2 : n ≤ 1152921504606846976) :
    Calls Try.prog 8 #[.int .i64 c, .int .i64 n] w fun e w' => e = .returned (.int .i64 (pickF c n)) ∧ w = w' := by
  by_cases h : c < 0
  · have e : pickF c n = -((c+1).tmod n) := by
      unfold pickF; rw [if_pos h, ← Int.neg_tmod, Int.tmod_eq_emod_of_nonneg (by omega)]
    have H := Lib.hid e
    clear e
    go_enter Try.func8, Try.ntmps8
    go_wp2
    go_ret
    exact ⟨by rw [H.out]; rfl, rfl⟩
  · have e : pickF c n = c % n := by unfold pickF; rw [if_neg h]
    have H := Lib.hid e
    clear e
    go_enter Try.func8, Try.ntmps8
    go_wp2
    go_ret
    exact ⟨by rw [H.out]; rfl, rfl⟩
set_option maxHeartbeats 1000000 in
theorem RES2 {a b c d : Int} {P : Prop} (h : (c, d) = (a, b)) (hp : P) : Ending.returned (.tuple #[.int .i64 a, .int .i64 b]) = Ending.returned (.tuple #[.int .i64 c, .int .i64 d]) ∧ P := by
  cases h; exact ⟨rfl, hp⟩
theorem bh_nil (s v : Int) : backP (hits [] s v) = (0, 180) := rfl
theorem bh_cons (a b c : Int) (t : List (Int × Int × Int)) (s v : Int) : backP (hits ((a, b, c) :: t) s v) = if s = a ∧ v = b then (c, 0) else backP (hits t s v) := by
  by_cases h : s = a ∧ v = b
  · obtain ⟨rfl, rfl⟩ := h; simp [hits, backP]
  · have : (a == s && b == v) = false := by
      rw [Bool.and_eq_false_iff]; simp only [beq_eq_false_iff_ne]
      by_cases h1 : a = s
      · right; intro h2; exact h ⟨h1.symm, h2.symm⟩
      · left; exact h1
    simp [hits, List.filter_cons, this, h]
set_option maxHeartbeats 2000000 in
theorem refSend_any (s v : Int) (w : World) : Calls Try.prog 10 #[.int .i64 s, .int .i64 v] w fun e w' => e = .returned (.tuple #[.int .i64 (sF s v).1, .int .i64 (sF s v).2]) ∧ w = w' := by
  go_enter Try.func10, Try.ntmps10
  go_wp2
  all_goals (go_ret2; refine RES2 ?_ rfl; simp only [beq_iff_eq, beq_eq_false_iff_ne, ne_eq] at *; simp only [sF, sendTab, bh_cons, bh_nil]; simp_all)
end Go.Proofs
