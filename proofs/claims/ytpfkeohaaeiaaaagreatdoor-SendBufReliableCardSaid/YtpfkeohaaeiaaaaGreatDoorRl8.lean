/- Texts FZb FZc FZd FZe FZf FZg FZh FZi FZj FZk FZl FTka FScope of this claim, one behind the other. -/
import Derived.Test.YtpfkeohaaeiaaaaGreatDoorRl7
import Derived.Test.YtpfkeohaaeiaaaaGreatDoorRl4
import Derived.WalkSpells
import Derived.Deep.RegionHeld3
import Derived.Deep.QuietTactic
import Derived.Test.YtpfkeohaaeiaaaaGreatDoorRl3
import Derived.ControlIn
import Derived.Scope
import Derived.ScopeJumps
/- Law 13: New, Next, Acked; clone, Sent and Outstanding at packets without frames. -/
namespace Go.Proofs.YtpfkeohaaeiaaaaGreatDoor.frm
open Go.RowKit Go.Maps
set_option maxRecDepth 100000
set_option maxRecDepth 100000 in
set_option maxHeartbeats 2000000 in
theorem new_any (w : World) : Calls Tryz.prog 30 #[] w fun e w' => ∃ b M, e = .returned (.pointer (some ⟨b, 0, none⟩)) ∧ w.heap.size ≤ b ∧ w.heap.size ≤ M ∧ RecAt w' b M ⟨[], 0, -1⟩ ∧ Below w.heap.size w w' := by
  have hmm := @run_makeMap Tryz.prog
  have X := Lib.hid (box2 w (.map #[] 0) (.cells #[.map (some w.heap.size), .int .i64 0, .int .i64 (-1)] 80))
  have XM := Lib.hid (MapAt.made w 3)
  go_enter Tryz.func30, Tryz.ntmps30
  go_wp2
  go_ret
  refine ⟨_, w.heap.size, rfl, by omega, Nat.le_refl _, ⟨X.out.2.1, _, (XM.out.alloc _), holds_nil⟩, X.out.2.2.1⟩
set_option maxRecDepth 100000 in
set_option maxHeartbeats 2000000 in
theorem next_any {w : World} {b M : Nat} {R : Rc} (hR : RecAt w b M R) : Calls Tryz.prog 14 #[.pointer (some ⟨b, 0, none⟩)] w fun e w' => e = .returned (.int .i64 R.nx) ∧ w = w' := by
  have c := at_whole hR.1 1 rfl
  simp only [List.getElem_toArray, List.getElem_cons_zero, List.getElem_cons_succ] at c
  clear hR
  go_enter Tryz.func14, Tryz.ntmps14
  go_wp2
  go_ret
  exact ⟨rfl, rfl⟩
set_option maxRecDepth 100000 in
set_option maxHeartbeats 2000000 in
theorem clone70_nil (w : World) : Calls Tryz.prog 67 #[.slice none 0 0] w fun e w' => e = .returned (.slice none 0 0) ∧ w = w' := by
  have h1 := @Lib.run_eql_slice_nil Tryz.prog
  go_enter Tryz.func67, Tryz.ntmps67
  go_wp2
  go_ret
  exact ⟨rfl, rfl⟩
set_option maxRecDepth 100000 in
set_option maxHeartbeats 2000000 in
theorem clone_nil (p : Pk) (hf : p.fv = .slice none 0 0) (w : World) : Calls Tryz.prog 41 #[p.val] w fun e w' => e = .returned p.val ∧ Below w.heap.size w w' := by
  obtain ⟨pn, time, size, el, fv⟩ := p
  obtain rfl : fv = .slice none 0 0 := hf
  simp only [Pk.val, Pk.cells]
  go_enter Tryz.func41, Tryz.ntmps41
  go_wp2_with (go_at_call 67; refine (clone70_nil _).mono ?_; rintro e w1 ⟨rfl, rfl⟩)
  refine wp_loop_rounds 1 ?_
  rw [rounds_succ]
  go_wp2
  refine bodyPost_ret (v := .agg #[.int .i64 pn, .int .i64 time, .int .i64 size, .bool el, .slice none 0 0]) (by simp [results, Tryz.results41, go_sem]) rfl ⟨rfl, ?_⟩
  exact (((Below.refl _ w).alloc (Nat.le_refl _) _).alloc (by simp) _)
def Rc.add (R : Rc) (p : Pk) : Rc := { R with l := R.l ++ [p], nx := R.nx + 1 }
theorem Rc.Ok.add {R : Rc} (h : R.Ok) (p : Pk) (hp : p.pn = R.nx) (hn : R.nx < 10000) (ht : 0 ≤ p.time ∧ p.time ≤ 1125899906842624) (hf : ∃ a n c, p.fv = .slice a n c) : (R.add p).Ok :=
  ⟨h.up.app p hp h.n0 hf, by have := h.n0; show 0 ≤ R.nx + 1; omega, by show R.nx + 1 ≤ 10000; omega, h.g0, by have := h.g1; show R.lg < R.nx + 1; omega,
   by have := h.len; show ((R.l ++ [p]).length : Int) ≤ R.nx + 1; rw [List.length_append, List.length_singleton]; omega,
   fun q hq => by
    rcases List.mem_append.1 hq with hq | hq
    · exact h.tm q hq
    · rw [List.mem_singleton.1 hq]; exact ht⟩
set_option maxRecDepth 100000 in
set_option maxHeartbeats 4000000 in
theorem sent_nil {w : World} {b M : Nat} {R : Rc} (hR : RecAt w b M R) (ok : R.Ok) (p : Pk) (hf : p.fv = .slice none 0 0) (hp : p.pn = R.nx) (ht : 0 ≤ p.time) (hs : 0 ≤ p.size) :
    Calls Tryz.prog 31 #[.pointer (some ⟨b, 0, none⟩), p.val] w fun e w' => e = .returned (.int .i64 0) ∧ RecAt w' b M (R.add p) ∧ Tu b M w w' := by
  have C := Lib.hid (fun w => clone_nil p hf w)
  have hwf := Lib.hid (pnWf ok.n0 (by have := ok.n1; omega))
  have hup := Lib.hid ok.up
  have hn0 := ok.n0
  have hn1 := ok.n1
  have hn2 : IntKind.i64.wrap (R.nx + 1) = R.nx + 1 := IntWalk.i64_in _ (by omega)
  obtain ⟨pn, time, size, el, fv⟩ := p
  obtain rfl : fv = .slice none 0 0 := hf
  obtain rfl : pn = R.nx := hp
  simp only [Pk.val, Pk.cells] at C ht hs ⊢
  have hb := heap_lt hR.1
  have X := Lib.hid (box1 w (.cells #[.int .i64 R.nx, .int .i64 time, .int .i64 size, .bool el, .slice none 0 0] 49))
  have HR := Lib.hid (hR.below X.out.2.1)
  have x0 := at_whole X.out.1 0 rfl
  have x1 := at_whole X.out.1 1 rfl
  have x2 := at_whole X.out.1 2 rfl
  have x3 := at_whole X.out.1 3 rfl
  have x4 := at_whole X.out.1 4 rfl
  have b0 := at_whole HR.out.1 0 rfl
  have b1 := at_whole HR.out.1 1 rfl
  simp only [List.getElem_toArray, List.getElem_cons_zero, List.getElem_cons_succ] at x0 x1 x2 x3 x4 b0 b1
  have gd : decide (R.nx > 281474976710655) = false := by simp; omega
  have gd2 : (281474976710655 < R.nx) = False := eq_false (by omega)
  have gt : (time < 0) = False := eq_false (by omega)
  have gs : (size < 0) = False := eq_false (by omega)
  clear hR ok
  go_enter Tryz.func31, Tryz.ntmps31
  go_wp2
  generalize w.alloc _ = V at X HR x0 x1 x2 x3 x4 b0 b1 ⊢
  go_quiet (fail)
  go_wp2
  have Y := Lib.hid (show (V.drewN nq).heap[w.heap.size]? = some (.cells #[.int .i64 R.nx, .int .i64 time, .int .i64 size, .bool el, .slice none 0 0] 49 (0, 0)) ∧ Below w.heap.size w (V.drewN nq) ∧ RecAt (V.drewN nq) b M R from ⟨X.out.1, belowN X.out.2.1 _, HR.out.1, HR.out.2.of_block rfl⟩)
  clear x0 x1 x2 x3 x4 b0 b1 X HR
  generalize V.drewN nq = V2 at Y ⊢
  have x0 := at_whole Y.out.1 0 rfl
  have x1 := at_whole Y.out.1 1 rfl
  have x2 := at_whole Y.out.1 2 rfl
  have x3 := at_whole Y.out.1 3 rfl
  have x4 := at_whole Y.out.1 4 rfl
  have b0 := at_whole Y.out.2.2.1 0 rfl
  simp only [List.getElem_toArray, List.getElem_cons_zero, List.getElem_cons_succ] at x0 x1 x2 x3 x4 b0
  have HS := Lib.hid (show ∀ w', Keep V2 w' → (w'.cell? ⟨b, 0, none⟩ = some (.map (some M)) ∧ w'.cell? ⟨w.heap.size, 0, none⟩ = some (.int .i64 R.nx) ∧ w'.cell? ⟨w.heap.size, 1, none⟩ = some (.int .i64 time) ∧ w'.cell? ⟨w.heap.size, 2, none⟩ = some (.int .i64 size) ∧ w'.cell? ⟨w.heap.size, 3, none⟩ = some (.bool el) ∧ w'.cell? ⟨w.heap.size, 4, none⟩ = some (.slice none 0 0)) from
    fun w' h => ⟨at_whole (h _ _ _ Y.out.2.2.1) 0 rfl, at_whole (h _ _ _ Y.out.1) 0 rfl, at_whole (h _ _ _ Y.out.1) 1 rfl, at_whole (h _ _ _ Y.out.1) 2 rfl, at_whole (h _ _ _ Y.out.1) 3 rfl, at_whole (h _ _ _ Y.out.1) 4 rfl⟩)
  have UP := Lib.hid (show ∀ w1, Below V2.drew.heap.size V2.drew w1 → ∃ w3, (Instr.mapUpdate 78 (.map (some M)) (.int .i64 R.nx) (.agg #[.int .i64 R.nx, .int .i64 time, .int .i64 size, .bool el, .slice none 0 0])).run Tryz.prog w1 = .ok () w3 ∧ MapPk w3 M (R.nx.toNat + 1) (R.l ++ [⟨R.nx, time, size, el, .slice none 0 0⟩]) ∧ w1.grownBy w3 (some M) ∧ Keep V2 w3 from fun w1 h => by
    obtain ⟨D, hD, hH⟩ := (Y.out.2.2.below (below_drew h)).2
    obtain ⟨w3, h1, h2, h3⟩ := hD.put (t := 78) (e := 49) (Maps.int_keyed Tryz.underlying3) Tryz.underlying78 (by unfold maxLen; omega) (.agg #[.int .i64 R.nx, .int .i64 time, .int .i64 size, .bool el, .slice none 0 0]) (Maps.keyOf_int_mk Tryz.underlying3 hwf.out)
    exact ⟨w3, h1, ⟨_, h2, hH.put hup.out ⟨R.nx, time, size, el, .slice none 0 0⟩ rfl⟩, h3, fun x y z hh => keep_map hD h3 x y z (keep_below (below_drew h) x y z hh)⟩)
  go_region_held3 (fun w' => w'.cell? ⟨b, 0, none⟩ = some (.map (some M)) ∧ w'.cell? ⟨w.heap.size, 0, none⟩ = some (.int .i64 R.nx) ∧ w'.cell? ⟨w.heap.size, 1, none⟩ = some (.int .i64 time) ∧ w'.cell? ⟨w.heap.size, 2, none⟩ = some (.int .i64 size) ∧ w'.cell? ⟨w.heap.size, 3, none⟩ = some (.bool el) ∧ w'.cell? ⟨w.heap.size, 4, none⟩ = some (.slice none 0 0))
    (first | exact HS.out _ (keep_below (Below.refl V2.heap.size V2).drew) | exact HS.out _ (keep_below (below_drew hb1)) | exact HS.out _ hk3)
    (first | (go_at_call 41; refine (C.out _).mono ?_; rintro e w1 ⟨rfl, hb1⟩; obtain ⟨w3, hrun, hm3, hg3, hk3⟩ := UP.out _ hb1))
  have R3 := Lib.hid (show w3.heap[b]? = some (.cells #[.map (some M), .int .i64 R.nx, .int .i64 R.lg] 80 (0, 0)) from hk3 _ _ _ Y.out.2.2.1)
  have T3 := Lib.hid (show Tu b M w w3 from (Tu.below Y.out.2.1).trans ((Tu.below (below_drew hb1)).trans (Tu.map hg3)))
  have M3 := Lib.hid hm3
  have d1 := at_whole R3.out 1 rfl
  have f1 := frozen_whole R3.out 1
  simp only [List.getElem_toArray, List.getElem_cons_zero, List.getElem_cons_succ] at d1
  clear hrun hm3 hg3 hk3 hb1 x0 x1 x2 x3 x4 b0
  go_wp2
  go_ret
  refine ⟨rfl, ⟨?_, ?_⟩, T3.out.trans (Tu.set _ _ _)⟩
  · exact (heap_set (.int .i64 (R.nx + 1)) R3.out)
  · obtain ⟨D, hD, hH⟩ := M3.out
    have hne : M ≠ b := fun e => by
      subst e
      have := hD.no_cells R3.out
      cases this
    have e : (R.nx + 1).toNat = R.nx.toNat + 1 := by omega
    exact MapPk.of_block (w := w3) (by show MapPk w3 M (R.nx + 1).toNat _; rw [e]; exact M3.out) (heap_setCell_other _ _ _ _ (fun e => hne e))
end Go.Proofs.YtpfkeohaaeiaaaaGreatDoor.frm
/- Law 13: Outstanding at packets without frames. -/
namespace Go.Proofs.YtpfkeohaaeiaaaaGreatDoor.frm
open Go.RowKit Go.Maps
set_option maxRecDepth 100000
theorem setCell_self {w : World} {b i : Nat} {v : Value} (h : w.cell? ⟨b, i, none⟩ = some v) : w.setCell ⟨b, i, none⟩ v = w := by
  have hb : ∃ cs T fz, w.heap[b]? = some (.cells cs T fz) ∧ cs[i]? = some v := by
    unfold World.cell? at h
    split at h
    · rename_i c T fz e
      exact ⟨c, T, fz, e, by simpa using h⟩
    · cases h
  obtain ⟨cs, T, fz, hh, hc⟩ := hb
  have hs : cs.setIfInBounds i v = cs := by
    obtain ⟨hi, he⟩ := Array.getElem?_eq_some_iff.1 hc
    subst he
    exact Array.ext_getElem? (fun k => by
      by_cases e : i = k
      · subst e; simp [hi]
      · simp [e])
  have e : (w.setCell ⟨b, i, none⟩ v).heap = w.heap := by
    refine Array.ext_getElem? (fun k => ?_)
    by_cases e : k = b
    · subst e
      have : (w.setCell ⟨k, i, none⟩ v).heap[k]? = some (.cells (cs.setIfInBounds i v) T fz) := by simp [World.setCell, Array.getElem?_modify, hh]
      rw [this, hs, hh]
    · exact heap_setCell_other w _ k v (fun e2 => e e2)
  show World.setCell w _ v = w
  unfold World.setCell at e ⊢
  cases w
  simp only at e ⊢
  rw [e]
theorem filter_true (l : List Pk) : l.filter (fun _ => true) = l := List.filter_eq_self.2 (fun _ _ => rfl)
set_option maxRecDepth 100000 in
set_option maxHeartbeats 4000000 in
theorem out_nil {w : World} {b M : Nat} {R : Rc} (hR : RecAt w b M R) (ok : R.Ok) (hf : ∀ p ∈ R.l, p.fv = .slice none 0 0) :
    Calls Tryz.prog 16 #[.pointer (some ⟨b, 0, none⟩)] w (SelPost w R.l) := by
  have SEL := Lib.hid (sel_any hR ok (k := 40) (lb := #[]) (f := fun _ => true) (fun p hp W hW => want46 p W) ek46)
  rw [filter_true] at SEL
  have hlen : R.l.length ≤ 10000 := by have := ok.len; have := ok.n1; omega
  have HF := Lib.hid hf
  have CL := Lib.hid (fun p hp w => clone_nil p (hf p hp) w)
  clear hR ok hf
  generalize R.l = l at *
  go_enter Tryz.func16, Tryz.ntmps16
  go_wp2_with (go_at_call 39; refine (all_any _ _).mono ?_; rintro e w' ⟨rfl, rfl⟩)
  refine SEL.out.mono ?_
  rintro e w1 ⟨v, rfl, hv, hb1⟩
  rcases hv.form with ⟨rfl, hl0⟩ | ⟨g, cap, cur, rfl, hpos, hcap, hm, hg, hgg, hcell⟩
  · have H := Lib.hid (And.intro hv hb1)
    clear hv hb1
    go_wp2
    refine wp_loop_rounds 1 ?_
    rw [rounds_succ]
    go_wp2
    go_ret
    exact ⟨_, rfl, H.out.1, H.out.2⟩
  · have H := Lib.hid (And.intro hv (And.intro hb1 (And.intro hg (And.intro hgg hcell))))
    clear hv hb1 hg hgg hcell
    unfold maxLen at hm
    go_wp2
    go_loopw [11] (fun i wr => ∃ j : Nat, j ≤ l.length ∧ i = .int .i64 j ∧ Below w1.heap.size w1 wr) (fun i _ => l.length - (intOf i).toNat)
    case atStart => exact ⟨0, by omega, rfl, Below.refl _ _⟩
    case round =>
      obtain ⟨j, hj, rfl, hB⟩ := hrel
      have B := Lib.hid hB
      clear hB
      by_cases hlt : j < l.length
      · have hgn := Lib.hid (heap_below B.out H.out.2.2.2.1)
        have HC := Lib.hid (H.out.2.2.2.2 j hlt)
        have hk : ∀ k, wr.cell? ⟨g, k, none⟩ = w1.cell? ⟨g, k, none⟩ := fun k => World.cell?_of_block (a := ⟨g, k, none⟩) (hgn.out.trans H.out.2.2.2.1.symm)
        have q0 := (hk _).trans HC.out.1
        have q1 := (hk _).trans HC.out.2.1
        have q2 := (hk _).trans HC.out.2.2.1
        have q3 := (hk _).trans HC.out.2.2.2.1
        have q4 := (hk _).trans HC.out.2.2.2.2
        have C := Lib.hid (fun w => CL.out (l[j]'hlt) (List.getElem_mem hlt) w)
        have hfv := HF.out (l[j]'hlt) (List.getElem_mem hlt)
        clear hk HC
        generalize l[j]'hlt = p at *
        obtain ⟨pn, time, size, el, fv⟩ := p
        obtain rfl : fv = .slice none 0 0 := hfv
        simp only [Pk.val, Pk.cells] at q0 q1 q2 q3 q4 C
        have X := Lib.hid (box1 wr (.cells #[.int .i64 pn, .int .i64 time, .int .i64 size, .bool el, .slice none 0 0] 49))
        have Q := Lib.hid (And.intro q0 (And.intro q1 (And.intro q2 (And.intro q3 q4))))
        go_wp2_with fail
        refine (C.out _).mono ?_
        rintro e w2 ⟨rfl, hb2⟩
        have BB := Lib.hid (btrans X.out.2.1 hb2)
        have hg2 := heap_below BB.out hgn.out
        have hk : ∀ k, w2.cell? ⟨g, k, none⟩ = wr.cell? ⟨g, k, none⟩ := fun k => World.cell?_of_block (a := ⟨g, k, none⟩) (hg2.trans hgn.out.symm)
        have c0 := (hk _).trans Q.out.1
        have c1 := (hk _).trans Q.out.2.1
        have c2 := (hk _).trans Q.out.2.2.1
        have c3 := (hk _).trans Q.out.2.2.2.1
        have c4 := (hk _).trans Q.out.2.2.2.2
        have s0 := setCell_self c0
        have s1 := setCell_self c1
        have s2 := setCell_self c2
        have s3 := setCell_self c3
        have s4 := setCell_self c4
        have fz : ∀ k, w2.frozen? ⟨g, k, none⟩ = false := fun k => frozen_whole hg2 k
        have B2 := Lib.hid (B.out.trans (BB.out.mono B.out.size))
        clear hk q0 q1 q2 q3 q4 hb2 hg2
        go_wp2
        go_roundw
        case rel => exact ⟨j + 1, by omega, by go_num, B2.out⟩
        case measure => simp [intOf]; omega
      · obtain rfl : j = l.length := by omega
        clear hlt
        go_wp2
        go_ret
        exact ⟨_, rfl, H.out.1.below B.out, H.out.2.1.trans (B.out.mono H.out.2.1.size)⟩
end Go.Proofs.YtpfkeohaaeiaaaaGreatDoor.frm
/- Law 13: Ack. -/
namespace Go.Proofs.YtpfkeohaaeiaaaaGreatDoor.frm
open Go.RowKit Go.Maps
set_option maxRecDepth 100000
theorem wpList_load_row_g {P : Program} {ops : Array Oper} {rest : List Oper} {o : Oper} {a : Act} {w : World} {Q : Exit → Act → World → Prop} (hw : Region.wanted o (yielded ops a.tmps) = true) (ty : TypeId) (x : Operand) (ho : o.op = .load ty x)
    (g : Nat) (hx : a.eval x = .pointer (some ⟨g, 0, none⟩)) (t : TypeId) (cs : Array Value) (fr : Nat × Nat) (d : TypeDesc) (hg : w.heap[g]? = some (.cells cs t fr))
    (hu : P.underlying ty = some d) (hd : (match d with | .struct _ | .array _ _ => true | _ => false) = true) (hi : (P.info? ty).map (·.size) = some cs.size)
    (h : wpList P ops Q rest (a.put o.dst (.agg cs)) w) : wpList P ops Q (o :: rest) a w := by
  rw [wpList, if_pos hw]
  exact .inl (wp_load_row ty x ho g hx t cs fr d hg hu hd hi h)
/-- what is left behind the acknowledgment itself -/
def Rc.ack (R : Rc) (n : Nat) (F T : Nat → Int) : Rc := { R.cut (akF n F T) with lg := max R.lg (T 0 - 1) }
theorem Rc.Ok.ack {R : Rc} (h : R.Ok) (n : Nat) (F T : Nat → Int) (h1 : T 0 ≤ R.nx) : (R.ack n F T).Ok := by
  have c := h.cut (akF n F T)
  exact ⟨c.up, c.n0, c.n1, by have := h.g0; show -1 ≤ max R.lg (T 0 - 1); omega, by have := h.g1; show max R.lg (T 0 - 1) < R.nx; omega, c.len, c.tm⟩
def AckPost (b M : Nat) (R : Rc) (n : Nat) (F T : Nat → Int) (now d : Int) (w : World) (e : Ending) (w' : World) : Prop :=
  ∃ va vl, e = .returned (.tuple #[va, vl, .int .i64 0]) ∧ PkRow w.heap.size w' va (R.l.filter (akF n F T)) ∧ PkRow w.heap.size w' vl ((R.ack n F T).l.filter (exF (R.ack n F T).lg now d)) ∧
    RecAt w' b M ((R.ack n F T).cut (exF (R.ack n F T).lg now d)) ∧ Tu b M w w'
set_option maxRecDepth 100000 in
set_option maxHeartbeats 8000000 in
theorem ack_unsent {w : World} {b M : Nat} {R : Rc} (hR : RecAt w b M R) (_ok : R.Ok) (dl : Int) (rv : Value) (n : Nat) (F T : Nat → Int) (now d : Int) (h0 : 0 ≤ dl) (h1 : dl ≤ 4611686018427387903) (hG : RgOk n F T) (hS : SpansAt w rv n F T) (hn : 0 ≤ now) (hd : 0 ≤ d)
    (hT : R.nx < T 0) : Calls Tryz.prog 60 #[.pointer (some ⟨b, 0, none⟩), .int .i64 now, .agg (ackE dl rv), .int .i64 d] w fun e w' => e = .returned (.tuple #[.slice none 0 0, .slice none 0 0, .int .i64 130]) ∧ Below w.heap.size w w' := by
  have X := Lib.hid (box1 w (.cells (ackE dl rv) 56))
  have VA := Lib.hid (valid_ack dl rv n F T _ h0 h1 hG (hS.below X.out.2.1))
  obtain ⟨g, o, cap, hrv, hcap, hm, hsp⟩ := hS
  subst hrv
  have c0 := (hsp 0 hG.lo).2
  rw [Nat.zero_mul, Nat.add_zero] at c0
  have cl := World.block_lt_of_cell? _ _ c0
  have hn1 := hG.lo
  have hbl := heap_lt hR.1
  have HF := Lib.hid (fun W (h : Below w.heap.size w W) => And.intro ((h.cell (p := ⟨g, o + 1, none⟩) cl).trans c0) (at_whole (heap_below h hR.1) 1 rfl))
  have hgt : (R.nx < T 0) = True := eq_true hT
  have gn : (now < 0) = False := eq_false (by omega)
  have gd : (d < 0) = False := eq_false (by omega)
  unfold maxLen at hm
  clear hR hG hsp c0 cl
  unfold ackE at *
  have x0 := at_whole X.out.1 0 rfl
  simp only [List.getElem_toArray, List.getElem_cons_zero] at x0
  have i0 : (0 : Int) < (n : Int) := by omega
  go_enter Tryz.func60, Tryz.ntmps60
  go_wp2_with (first | (refine wpList_load_row_g rfl 56 _ rfl w.heap.size rfl 56 _ (0, 0) _ X.out.1 Tryz.underlying56 rfl size56 ?_))
  generalize w.alloc _ = V at X VA x0 ⊢
  refine VA.out.mono ?_
  rintro e V1 ⟨rfl, hb1⟩
  have XB := Lib.hid (btrans X.out.2.1 hb1)
  have XF := Lib.hid (heap_below hb1 X.out.1)
  have y9 := at_whole XF.out 9 rfl
  have yT := (HF.out V1 XB.out).1
  have yN := (HF.out V1 XB.out).2
  simp only [List.getElem_toArray, List.getElem_cons_zero, List.getElem_cons_succ] at y9 yN
  clear x0 hb1
  go_wp2
  go_quiet (fail)
  go_wp2
  go_ret3
  exact ⟨rfl, belowN XB.out _⟩
set_option maxRecDepth 100000 in
set_option maxHeartbeats 8000000 in
theorem ack_any {w : World} {b M : Nat} {R : Rc} (hR : RecAt w b M R) (ok : R.Ok) (dl : Int) (rv : Value) (n : Nat) (F T : Nat → Int) (now d : Int) (h0 : 0 ≤ dl) (h1 : dl ≤ 4611686018427387903) (hG : RgOk n F T) (hS : SpansAt w rv n F T) (hn : 0 ≤ now) (hd : 0 ≤ d)
    (hn' : now ≤ 9223372036854775807) (hd' : d ≤ 9223372036854775807)
    (hT : T 0 ≤ R.nx) (hgb : ∀ g o c, rv = .slice (some ⟨g, o, none⟩) n c → g ≠ b) : Calls Tryz.prog 60 #[.pointer (some ⟨b, 0, none⟩), .int .i64 now, .agg (ackE dl rv), .int .i64 d] w (AckPost b M R n F T now d w) := by
  have X := Lib.hid (box1 w (.cells (ackE dl rv) 56))
  have VA := Lib.hid (valid_ack dl rv n F T _ h0 h1 hG (hS.below X.out.2.1))
  have SP := Lib.hid hS
  obtain ⟨g, o, cap, hrv, hcap, hm, hsp⟩ := hS
  have hgb2 := hgb g o cap hrv
  clear hgb
  subst hrv
  have c0 := (hsp 0 hG.lo).2
  rw [Nat.zero_mul, Nat.add_zero] at c0
  have cl := World.block_lt_of_cell? _ _ c0
  have hn1 := hG.lo
  have hn2 := hG.hi
  have hT0 := (hG.at_ 0 hG.lo).1
  have hT1 := (hG.at_ 0 hG.lo).2.1
  have hbl := heap_lt hR.1
  have HF := Lib.hid (fun W (h : Below w.heap.size w W) => And.intro ((h.cell (p := ⟨g, o + 1, none⟩) cl).trans c0) (at_whole (heap_below h hR.1) 1 rfl))
  have HR := Lib.hid hR
  have OK := Lib.hid ok
  have HT := Lib.hid hT
  have hgt : (R.nx < T 0) = False := eq_false (by omega)
  have gn : (now < 0) = False := eq_false (by omega)
  have gd : (d < 0) = False := eq_false (by omega)
  have hnx := ok.n1
  unfold maxLen at hm
  clear hR ok hG hsp c0 cl hT
  unfold ackE at *
  have x0 := at_whole X.out.1 0 rfl
  simp only [List.getElem_toArray, List.getElem_cons_zero] at x0
  have i0 : (0 : Int) < (n : Int) := by omega
  have hmf := mkf
  go_enter Tryz.func60, Tryz.ntmps60
  go_wp2_with (first | (refine wpList_load_row_g rfl 56 _ rfl w.heap.size rfl 56 _ (0, 0) _ X.out.1 Tryz.underlying56 rfl size56 ?_))
  generalize w.alloc _ = V at X VA x0 ⊢
  refine VA.out.mono ?_
  rintro e V1 ⟨rfl, hb1⟩
  have XB := Lib.hid (btrans X.out.2.1 hb1)
  have XF := Lib.hid (heap_below hb1 X.out.1)
  have y9 := at_whole XF.out 9 rfl
  have yT := (HF.out V1 XB.out).1
  have yN := (HF.out V1 XB.out).2
  simp only [List.getElem_toArray, List.getElem_cons_zero, List.getElem_cons_succ] at y9 yN
  clear x0 hb1
  go_wp2
  go_quiet (fail)
  go_wp2_with fail
  have Y := Lib.hid (show (V1.drewN nq).heap[w.heap.size]? = _ ∧ Below w.heap.size w (V1.drewN nq) from ⟨XF.out, belowN XB.out _⟩)
  clear y9 yT yN XB XF X VA
  generalize V1.drewN nq = V2 at Y ⊢
  refine (remove_any (HR.out.below Y.out.2) OK.out (k := 86) (lb := #[.pointer (some ⟨w.heap.size, 0, none⟩)]) (f := akF n F T)
    (fun p hp W hW => want41 p w.heap.size n F T _ _ W (by omega) (SP.out.below (btrans Y.out.2 hW)) (heap_below hW Y.out.1) rfl) ek41).mono ?_
  rintro e V3 ⟨va, rfl, hva, hR3, hT3⟩
  have hne : w.heap.size ≠ b := by omega
  have hRY := HR.out.below Y.out.2
  have hneM : w.heap.size ≠ M := fun e => by
    obtain ⟨D, hD, _⟩ := hRY.2
    subst e
    have := hD.no_cells Y.out.1
    cases this
  have F3 := Lib.hid ((hT3.block _ (heap_lt Y.out.1) hne hneM).trans Y.out.1)
  have gT : V2.cell? ⟨g, o + 1, none⟩ = some (.int .i64 (T 0)) := (HF.out V2 Y.out.2).1
  have gl := World.block_lt_of_cell? _ _ gT
  have hgM : g ≠ M := fun e => by
    obtain ⟨D, hD, _⟩ := hRY.2
    subst e
    obtain ⟨es, clock, hh, _⟩ := hD
    simp [World.cell?, hh] at gT
  have z9 := at_whole F3.out 9 rfl
  have zT : V3.cell? ⟨g, o + 1, none⟩ = some (.int .i64 (T 0)) := (World.cell?_of_block (a := ⟨g, o + 1, none⟩) (hT3.block g gl hgb2 hgM)).trans gT
  have zb := at_whole hR3.1 2 rfl
  have zf := frozen_whole hR3.1 2
  simp only [List.getElem_toArray, List.getElem_cons_zero, List.getElem_cons_succ, Rc.cut] at z9 zb
  have wT : IntKind.i64.wrap (T 0 - 1) = T 0 - 1 := IntWalk.i64_in _ (by have := HT.out; omega)
  have H3 := Lib.hid (And.intro (hva.base Y.out.2.size) (And.intro hR3 ((Tu.below Y.out.2).trans hT3)))
  have lo := OK.out.g0
  have hi := OK.out.g1
  clear hva hR3 hT3 gT hRY
  have n0 : (0 < n) = True := eq_true (by omega)
  go_wp2
  go_still_tail 14, (by kernel_rfl)
  go_wp2_with fail
  have R4 := Lib.hid (show RecAt ((V3.setCell ⟨b, 2, none⟩ (.int .i64 (max R.lg (T 0 - 1)))).drew) b M (R.ack n F T) from
    ⟨heap_set (w := V3) _ H3.out.2.1.1, MapPk.of_block (w := V3) H3.out.2.1.2 (heap_setCell_other V3 _ _ _ (fun e => H3.out.2.1.ne (by exact e.symm)))⟩)
  have T4 := Lib.hid (show Tu b M w ((V3.setCell ⟨b, 2, none⟩ (.int .i64 (max R.lg (T 0 - 1)))).drew) from (H3.out.2.2.trans (Tu.set _ _ _)).drew)
  have A4 := Lib.hid (H3.out.1.turn (w' := (V3.setCell ⟨b, 2, none⟩ (.int .i64 (max R.lg (T 0 - 1)))).drew) H3.out.2.1 (Tu.set V3 _ _).drew)
  clear z9 zT zb zf H3 F3 gl wT
  go_wp2_with fail
  generalize (V3.setCell _ _).drew = V4 at R4 T4 A4 ⊢
  refine (expire_any R4.out (OK.out.ack n F T HT.out) now d hn hn' hd hd').mono ?_
  rintro e V5 ⟨vl, rfl, h1, h2, h3⟩
  have H5 := Lib.hid (And.intro (A4.out.turn R4.out h3) (And.intro (h1.base T4.out.size) (And.intro h2 (T4.out.trans h3))))
  clear h1 h2 h3
  go_wp2
  go_ret3
  exact ⟨va, vl, rfl, H5.out.1, H5.out.2.1, H5.out.2.2.1, H5.out.2.2.2⟩
end Go.Proofs.YtpfkeohaaeiaaaaGreatDoor.frm
/- Law 13: a nil Recovery; numbers. -/
namespace Go.Proofs.YtpfkeohaaeiaaaaGreatDoor.frm
open Go.RowKit Go.Maps
set_option maxRecDepth 100000
set_option maxRecDepth 100000 in
set_option maxHeartbeats 2000000 in
theorem sent_none (p : Pk) (w : World) : Calls Tryz.prog 31 #[.pointer none, p.val] w fun e w' => e = .returned (.int .i64 1) ∧ Below w.heap.size w w' := by
  simp only [Pk.val, Pk.cells]
  go_enter Tryz.func31, Tryz.ntmps31
  go_wp2
  go_ret
  exact ⟨rfl, (Below.refl _ _).alloc (Nat.le_refl _) _⟩
set_option maxRecDepth 100000 in
set_option maxHeartbeats 2000000 in
theorem next_none (w : World) : Calls Tryz.prog 14 #[.pointer none] w fun e w' => e = .returned (.int .i64 0) ∧ w = w' := by
  go_enter Tryz.func14, Tryz.ntmps14
  go_wp2
  go_ret
  exact ⟨rfl, rfl⟩
theorem sel_none {w : World} {k : Nat} {lb : Array Value} (ek : ∀ args w, (callFunc k args).run Tryz.prog w = .ok (.enter k args) w) :
    Calls Tryz.prog 38 #[.func (.func 64) #[] #[.pointer (some ⟨w.heap.size, 0, none⟩)], .func (.func k) #[] lb] (w.alloc (.cells #[.pointer none] 30)) fun e w' => e = .returned (.slice none 0 0) ∧ Below w.heap.size w w' :=
  (sel_nil (fun _ => true) ek).mono fun e w' h => by
    obtain ⟨v, rfl, h1, h2⟩ := h
    exact ⟨by rw [h1.2.2 rfl], h2⟩
set_option maxRecDepth 100000 in
set_option maxHeartbeats 2000000 in
theorem out_none (w : World) : Calls Tryz.prog 16 #[.pointer none] w fun e w' => e = .returned (.slice none 0 0) ∧ Below w.heap.size w w' := by
  have SEL := Lib.hid (sel_none (w := w) (k := 40) (lb := #[]) ek46)
  go_enter Tryz.func16, Tryz.ntmps16
  go_wp2_with (first | (go_at_call 39; refine (all_any _ _).mono ?_; rintro e w' ⟨rfl, rfl⟩) | (go_at_call 38; refine SEL.out.mono ?_; rintro e w1 ⟨rfl, hb1⟩))
  refine wp_loop_rounds 1 ?_
  rw [rounds_succ]
  go_wp2
  go_ret
  exact ⟨rfl, hb1⟩
set_option maxRecDepth 100000 in
set_option maxHeartbeats 2000000 in
theorem rem_none (k : Nat) (lb : Array Value) (ek : ∀ args w, (callFunc k args).run Tryz.prog w = .ok (.enter k args) w) (w : World) : Calls Tryz.prog 61 #[.pointer none, .func (.func k) #[] lb] w fun e w' => e = .returned (.slice none 0 0) ∧ Below w.heap.size w w' := by
  have SEL := Lib.hid (sel_none (w := w) (k := k) (lb := lb) ek)
  go_enter Tryz.func61, Tryz.ntmps61
  go_wp2_with (first | (go_at_call 39; refine (all_any _ _).mono ?_; rintro e w' ⟨rfl, rfl⟩) | (go_at_call 38; refine SEL.out.mono ?_; rintro e w1 ⟨rfl, hb1⟩))
  refine wp_loop_rounds 1 ?_
  rw [rounds_succ]
  go_wp2
  go_ret
  exact ⟨rfl, hb1⟩
set_option maxRecDepth 100000 in
set_option maxHeartbeats 2000000 in
theorem discard_none (w : World) : Calls Tryz.prog 35 #[.pointer none] w fun e w' => e = .returned (.slice none 0 0) ∧ Below w.heap.size w w' := by
  have REM := Lib.hid (rem_none 62 #[] ek52)
  go_enter Tryz.func35, Tryz.ntmps35
  go_wp2_with (go_at_call 61; refine (REM.out _).mono ?_; rintro e w1 ⟨rfl, h1⟩)
  go_ret
  exact ⟨rfl, h1⟩
set_option maxRecDepth 100000 in
set_option maxHeartbeats 2000000 in
theorem expire_none (now d : Int) (w : World) : Calls Tryz.prog 36 #[.pointer none, .int .i64 now, .int .i64 d] w fun e w' => e = .returned (.slice none 0 0) ∧ Below w.heap.size w w' := by
  have X := Lib.hid (box3 w (.cells #[.pointer none] 30) (.cells #[.int .i64 now] 3) (.cells #[.int .i64 d] 3))
  have REM := Lib.hid (rem_none 63 #[.pointer (some ⟨w.heap.size, 0, none⟩), .pointer (some ⟨w.heap.size + 1, 0, none⟩), .pointer (some ⟨w.heap.size + 1 + 1, 0, none⟩)] ek39)
  have hmf := mkf
  cases a1 : decide (now < 0) with
  | true =>
    go_enter Tryz.func36, Tryz.ntmps36
    go_wp2
    go_ret
    exact ⟨rfl, X.out.2.2.2.1⟩
  | false =>
    cases a2 : decide (d < 0) with
    | true =>
      go_enter Tryz.func36, Tryz.ntmps36
      go_wp2
      go_ret
      exact ⟨rfl, X.out.2.2.2.1⟩
    | false =>
      go_enter Tryz.func36, Tryz.ntmps36
      go_wp2_with (go_at_call 61; refine (REM.out _).mono ?_; rintro e w1 ⟨rfl, h1⟩)
      go_ret
      exact ⟨rfl, btrans X.out.2.2.2.1 h1⟩
set_option maxRecDepth 100000 in
set_option maxHeartbeats 2000000 in
theorem ack_none (now d dl : Int) (a : Option Addr) (n c : Nat) (w : World) : Calls Tryz.prog 60 #[.pointer none, .int .i64 now, .agg (ackE dl (.slice a n c)), .int .i64 d] w fun e w' => e = .returned (.tuple #[.slice none 0 0, .slice none 0 0, .int .i64 1]) ∧ Below w.heap.size w w' := by
  unfold ackE
  go_enter Tryz.func60, Tryz.ntmps60
  go_wp2
  go_ret3
  exact ⟨rfl, (Below.refl _ _).alloc (Nat.le_refl _) _⟩
end Go.Proofs.YtpfkeohaaeiaaaaGreatDoor.frm
/- Law 13: a Recovery of the call's own, rows and blocks of the call's own beside it: the contracts for the laws. -/
namespace Go.Proofs.YtpfkeohaaeiaaaaGreatDoor.frm
open Go.RowKit Go.Maps
set_option maxRecDepth 100000
structure Rw where
  e : TypeId
  z : Nat
  v : Value
  n : Nat
  xs : List Value
def pkR (v : Value) (l : List Pk) : Rw := ⟨49, 5, v, l.length, pcs l⟩
structure Lw (w0 w : World) (b M : Nat) (R : Rc) (rows : List Rw) (os : List (Nat × Obj)) : Prop where
  bel : Below w0.heap.size w0 w
  at_ : RecAt w b M R
  ok : R.Ok
  nil : ∀ p ∈ R.l, p.fv = .slice none 0 0
  ownb : w0.heap.size ≤ b
  ownM : w0.heap.size ≤ M
  rows : ∀ x ∈ rows, w.ownsRow w0.heap.size x.e x.z x.v x.n x.xs ∧ x.e ≠ 80
  os : ∀ x ∈ os, w.heap[x.1]? = some x.2 ∧ isC x.2 = true ∧ x.1 ≠ b
variable {w0 w w' : World} {b M : Nat} {R R' : Rc} {rows : List Rw} {os : List (Nat × Obj)}
theorem RecAt.noC (h : RecAt w b M R) {o : Obj} (ho : w.heap[M]? = some o) : isC o = false := by
  obtain ⟨D, h1, _⟩ := h.2
  exact h1.no_cells ho
theorem row_turn {B n z : Nat} {e : TypeId} {v : Value} {xs : List Value} (h : w.ownsRow B e z v n xs) (he : e ≠ 80) (hR : RecAt w b M R) (ht : Tu b M w w') : w'.ownsRow B e z v n xs := by
  refine ⟨h.1, ?_⟩
  rcases h.2 with h1 | ⟨g, cap, cur, rfl, hb, hgg, rest⟩
  · exact .inl h1
  · refine .inr ⟨g, cap, cur, rfl, hb, (ht.block g (heap_lt hgg) (fun e2 => ?_) (fun e2 => ?_)).trans hgg, rest⟩
    · subst e2; rw [hR.1] at hgg; cases hgg; exact he rfl
    · subst e2; have := hR.noC hgg; cases this
theorem Lw.turn (h : Lw w0 w b M R rows os) (hR : RecAt w' b M R') (ok : R'.Ok) (nil : ∀ p ∈ R'.l, p.fv = .slice none 0 0) (hT : Tu b M w w') : Lw w0 w' b M R' rows os :=
  ⟨Tu.to_below h.bel hT h.ownb h.ownM h.bel.size, hR, ok, nil, h.ownb, h.ownM, fun x hx => ⟨row_turn (h.rows x hx).1 (h.rows x hx).2 h.at_ hT, (h.rows x hx).2⟩,
   fun x hx => ⟨(hT.block x.1 (heap_lt (h.os x hx).1) (h.os x hx).2.2 (fun e => by have := h.at_.noC (e ▸ (h.os x hx).1); rw [(h.os x hx).2.1] at this; cases this)).trans (h.os x hx).1, (h.os x hx).2⟩⟩
theorem Lw.below (h : Lw w0 w b M R rows os) (hb : Below w.heap.size w w') : Lw w0 w' b M R rows os := h.turn (h.at_.below hb) h.ok h.nil (Tu.below hb)
theorem Lw.addRow (h : Lw w0 w b M R rows os) (r : Rw) (hr : w.ownsRow w0.heap.size r.e r.z r.v r.n r.xs) (he : r.e ≠ 80) : Lw w0 w b M R (r :: rows) os :=
  ⟨h.bel, h.at_, h.ok, h.nil, h.ownb, h.ownM, fun x hx => (List.mem_cons.1 hx).elim (fun e => e ▸ ⟨hr, he⟩) (h.rows x), h.os⟩
theorem Lw.addOb (h : Lw w0 w b M R rows os) {k : Nat} {o : Obj} (hk : w.heap[k]? = some o) (hc : isC o = true) (hb : k ≠ b) : Lw w0 w b M R rows ((k, o) :: os) :=
  ⟨h.bel, h.at_, h.ok, h.nil, h.ownb, h.ownM, h.rows, fun x hx => (List.mem_cons.1 hx).elim (fun e => e ▸ ⟨hk, hc, hb⟩) (h.os x)⟩
theorem Lw.sub {rows' : List Rw} {os' : List (Nat × Obj)} (h : Lw w0 w b M R rows os) (hr : ∀ x ∈ rows', x ∈ rows) (ho : ∀ x ∈ os', x ∈ os) : Lw w0 w b M R rows' os' :=
  ⟨h.bel, h.at_, h.ok, h.nil, h.ownb, h.ownM, fun x hx => h.rows x (hr x hx), fun x hx => h.os x (ho x hx)⟩
theorem Lw.row (h : Lw w0 w b M R rows os) {v : Value} {l : List Pk} (hx : pkR v l ∈ rows) (hn : v = .slice none 0 0 ↔ l = []) : PkRow w0.heap.size w v l := ⟨(h.rows _ hx).1, hn⟩
theorem Lw.at (h : Lw w0 w b M R rows os) {k : Nat} {o : Obj} (hx : (k, o) ∈ os) : w.heap[k]? = some o := (h.os _ hx).1
theorem nil_filter {l : List Pk} (h : ∀ p ∈ l, p.fv = .slice none 0 0) (f : Pk → Bool) : ∀ p ∈ l.filter f, p.fv = .slice none 0 0 := fun p hp => h p (List.mem_filter.1 hp).1
theorem lw_new (hb : Below w0.heap.size w0 w) : Calls Tryz.prog 30 #[] w fun e w' => ∃ b M, e = .returned (.pointer (some ⟨b, 0, none⟩)) ∧ w.heap.size ≤ b ∧ Lw w0 w' b M ⟨[], 0, -1⟩ [] [] := by
  refine (new_any w).mono ?_
  rintro e w' ⟨b, M, rfl, h1, h2, h3, h4⟩
  exact ⟨b, M, rfl, h1, hb.trans (h4.mono hb.size), h3, ⟨⟨by simp, by simp, by simp⟩, by decide, by decide, by decide, by decide, by decide, by simp⟩, by simp, Nat.le_trans hb.size h1, Nat.le_trans hb.size h2, by simp, by simp⟩
theorem lw_sent (h : Lw w0 w b M R rows os) (p : Pk) (hf : p.fv = .slice none 0 0) (hp : p.pn = R.nx) (hn : R.nx < 10000) (ht : 0 ≤ p.time ∧ p.time ≤ 1125899906842624) (hs : 0 ≤ p.size) :
    Calls Tryz.prog 31 #[.pointer (some ⟨b, 0, none⟩), p.val] w fun e w' => e = .returned (.int .i64 0) ∧ Lw w0 w' b M (R.add p) rows os := by
  refine (sent_nil h.at_ h.ok p hf hp ht.1 hs).mono ?_
  rintro e w' ⟨rfl, h1, h2⟩
  refine ⟨rfl, h.turn h1 (h.ok.add p hp hn ht ⟨_, _, _, hf⟩) (fun q hq => ?_) h2⟩
  rcases List.mem_append.1 hq with hq | hq
  · exact h.nil q hq
  · rw [List.mem_singleton.1 hq]; exact hf
/-- the packets left, and those lost, behind an ACK frame -/
def Rc.acked (R : Rc) (n : Nat) (F T : Nat → Int) (now d : Int) : Rc := (R.ack n F T).cut (exF (R.ack n F T).lg now d)
def Rc.lostA (R : Rc) (n : Nat) (F T : Nat → Int) (now d : Int) : List Pk := (R.ack n F T).l.filter (exF (R.ack n F T).lg now d)
def Isnil (v : Value) (l : List Pk) : Prop := v = .slice none 0 0 ↔ l = []
theorem lw_ack (h : Lw w0 w b M R rows os) (dl : Int) (rv : Value) (n : Nat) (F T : Nat → Int) (now d : Int) (h0 : 0 ≤ dl) (h1 : dl ≤ 4611686018427387903) (hG : RgOk n F T) (hS : SpansAt w rv n F T) (hn : 0 ≤ now) (hd : 0 ≤ d)
    (hn' : now ≤ 9223372036854775807) (hd' : d ≤ 9223372036854775807) (hT : T 0 ≤ R.nx) (hgb : ∀ g o c, rv = .slice (some ⟨g, o, none⟩) n c → g ≠ b) :
    Calls Tryz.prog 60 #[.pointer (some ⟨b, 0, none⟩), .int .i64 now, .agg (ackE dl rv), .int .i64 d] w fun e w' => ∃ va vl, e = .returned (.tuple #[va, vl, .int .i64 0]) ∧
      Isnil va (R.l.filter (akF n F T)) ∧ Isnil vl (R.lostA n F T now d) ∧ Lw w0 w' b M (R.acked n F T now d) (pkR vl (R.lostA n F T now d) :: pkR va (R.l.filter (akF n F T)) :: rows) os := by
  refine (ack_any h.at_ h.ok dl rv n F T now d h0 h1 hG hS hn hd hn' hd' hT hgb).mono ?_
  rintro e w' ⟨va, vl, rfl, h1, h2, h3, h4⟩
  refine ⟨va, vl, rfl, h1.2, h2.2, ?_⟩
  have hw := h.turn h3 ((h.ok.ack n F T hT).cut _) (nil_filter (nil_filter h.nil _) _) h4
  exact (hw.addRow (pkR va _) (h1.base h.bel.size).1 (show (49 : Nat) ≠ 80 by decide)).addRow (pkR vl _) (h2.base h.bel.size).1 (show (49 : Nat) ≠ 80 by decide)
theorem lw_unsent (h : Lw w0 w b M R rows os) (dl : Int) (rv : Value) (n : Nat) (F T : Nat → Int) (now d : Int) (h0 : 0 ≤ dl) (h1 : dl ≤ 4611686018427387903) (hG : RgOk n F T) (hS : SpansAt w rv n F T) (hn : 0 ≤ now) (hd : 0 ≤ d)
    (hT : R.nx < T 0) :
    Calls Tryz.prog 60 #[.pointer (some ⟨b, 0, none⟩), .int .i64 now, .agg (ackE dl rv), .int .i64 d] w fun e w' => e = .returned (.tuple #[.slice none 0 0, .slice none 0 0, .int .i64 130]) ∧ Lw w0 w' b M R rows os :=
  (ack_unsent h.at_ h.ok dl rv n F T now d h0 h1 hG hS hn hd hT).mono fun _ _ hh => ⟨hh.1, h.below hh.2⟩
theorem lw_exp (h : Lw w0 w b M R rows os) (now d : Int) (hn : 0 ≤ now) (hn' : now ≤ 9223372036854775807) (hd : 0 ≤ d) (hd' : d ≤ 9223372036854775807) :
    Calls Tryz.prog 36 #[.pointer (some ⟨b, 0, none⟩), .int .i64 now, .int .i64 d] w fun e w' => ∃ v, e = .returned v ∧ Isnil v (R.l.filter (exF R.lg now d)) ∧ Lw w0 w' b M (R.cut (exF R.lg now d)) (pkR v (R.l.filter (exF R.lg now d)) :: rows) os := by
  refine (expire_any h.at_ h.ok now d hn hn' hd hd').mono ?_
  rintro e w' ⟨v, rfl, h1, h2, h3⟩
  exact ⟨v, rfl, h1.2, (h.turn h2 (h.ok.cut _) (nil_filter h.nil _) h3).addRow (pkR v _) (h1.base h.bel.size).1 (show (49 : Nat) ≠ 80 by decide)⟩
theorem lw_disc (h : Lw w0 w b M R rows os) :
    Calls Tryz.prog 35 #[.pointer (some ⟨b, 0, none⟩)] w fun e w' => ∃ v, e = .returned v ∧ Isnil v R.l ∧ Lw w0 w' b M { R with l := [] } (pkR v R.l :: rows) os := by
  refine (discard_any h.at_ h.ok).mono ?_
  rintro e w' ⟨v, rfl, h1, h2, h3⟩
  rw [filter_true] at h1
  have ec : R.cut (fun _ => true) = { R with l := [] } := by unfold Rc.cut; simp
  have ok := h.ok.cut (fun _ => true)
  rw [ec] at h2 ok
  exact ⟨v, rfl, h1.2, (h.turn h2 ok (by simp) h3).addRow (pkR v _) (h1.base h.bel.size).1 (show (49 : Nat) ≠ 80 by decide)⟩
theorem lw_out (h : Lw w0 w b M R rows os) :
    Calls Tryz.prog 16 #[.pointer (some ⟨b, 0, none⟩)] w fun e w' => ∃ v, e = .returned v ∧ Isnil v R.l ∧ Lw w0 w' b M R (pkR v R.l :: rows) os := by
  refine (out_nil h.at_ h.ok h.nil).mono ?_
  rintro e w' ⟨v, rfl, h1, h2⟩
  exact ⟨v, rfl, h1.2, (h.below h2).addRow (pkR v _) (h1.base h.bel.size).1 (show (49 : Nat) ≠ 80 by decide)⟩
theorem lw_next (h : Lw w0 w b M R rows os) : Calls Tryz.prog 14 #[.pointer (some ⟨b, 0, none⟩)] w fun e w' => e = .returned (.int .i64 R.nx) ∧ w = w' := next_any h.at_
end Go.Proofs.YtpfkeohaaeiaaaaGreatDoor.frm
/- Law 13: sane. -/
namespace Go.Proofs.YtpfkeohaaeiaaaaGreatDoor.frm
open Go.RowKit Go.Maps
set_option maxRecDepth 100000
def sp (i : Int) (e : Bool) : Pk := ⟨i, 0, 10, e, .slice none 0 0⟩
def s5 : Rc := ⟨[sp 0 true, sp 1 true, sp 2 true, sp 3 true, sp 4 false], 5, -1⟩
def s6 : Rc := ⟨[sp 2 true, sp 3 true], 5, 4⟩
def s7 : Rc := ⟨[], 5, 4⟩
theorem e5 : (((((Rc.mk [] 0 (-1)).add (sp 0 true)).add (sp 1 true)).add (sp 2 true)).add (sp 3 true)).add (sp 4 false) = s5 := by kernel_rfl
theorem e6 : s5.acked 1 (fun _ => 4) (fun _ => 5) 5 10 = s6 := by kernel_rfl
theorem e6a : s5.l.filter (akF 1 (fun _ => 4) (fun _ => 5)) = [sp 4 false] := by kernel_rfl
theorem e6b : s5.lostA 1 (fun _ => 4) (fun _ => 5) 5 10 = [sp 0 true, sp 1 true] := by kernel_rfl
theorem e6c : deadT (s6.l.filter (dlF s6.lg)) 10 = 10 := by kernel_rfl
theorem e6d : s6.l.filter (exF s6.lg 9 10) = [] := by kernel_rfl
theorem e6e : s6.cut (exF s6.lg 9 10) = s6 := by kernel_rfl
theorem e6f : s6.l.filter (exF s6.lg 10 10) = [sp 2 true, sp 3 true] := by kernel_rfl
theorem e6g : s6.cut (exF s6.lg 10 10) = s7 := by kernel_rfl
theorem rgOne (f t : Int) (h0 : 0 ≤ f) (h1 : f < t) (h2 : t ≤ 281474976710656) : RgOk 1 (fun _ => f) (fun _ => t) := ⟨by decide, by decide, fun k hk => by
  obtain rfl : k = 0 := by omega
  exact ⟨h0, h1, h2, by show t < 281474976710658; omega⟩⟩
theorem spOne {w : World} {g : Nat} (f t : Int) (h : w.heap[g]? = some (.cells #[.int .i64 f, .int .i64 t] 103 (0, 0))) : SpansAt w (.slice (some ⟨g, 0, none⟩) 1 1) 1 (fun _ => f) (fun _ => t) :=
  ⟨g, 0, 1, rfl, by decide, by decide, fun k hk => by
    obtain rfl : k = 0 := by omega
    exact ⟨at_whole h 0 rfl, at_whole h 1 rfl⟩⟩
end Go.Proofs.YtpfkeohaaeiaaaaGreatDoor.frm
/- Law 13: RangesFrom. -/
namespace Go.Proofs.YtpfkeohaaeiaaaaGreatDoor.frm
open Go.RowKit
set_option maxRecDepth 100000
def fF (l : List (Int × Int)) (j : Nat) : Int := (l.getD j (0, 0)).1
def fT (l : List (Int × Int)) (j : Nat) : Int := (l.getD j (0, 0)).2
theorem fF_old (l : List (Int × Int)) (x : Int × Int) (j : Nat) (h : j < l.length) : fF (l ++ [x]) j = fF l j := by unfold fF; simp [List.getD, List.getElem?_append_left h]
theorem fT_old (l : List (Int × Int)) (x : Int × Int) (j : Nat) (h : j < l.length) : fT (l ++ [x]) j = fT l j := by unfold fT; simp [List.getD, List.getElem?_append_left h]
theorem fF_new (l : List (Int × Int)) (x : Int × Int) : fF (l ++ [x]) l.length = x.1 := by unfold fF; simp [List.getD]
theorem fT_new (l : List (Int × Int)) (x : Int × Int) : fT (l ++ [x]) l.length = x.2 := by unfold fT; simp [List.getD]
def RgIn (l : List (Int × Int)) : Prop := ∀ k, k < l.length → 0 ≤ fF l k ∧ fF l k < fT l k ∧ fT l k ≤ 281474976710656 ∧ fT l k < prv (fF l) k
theorem RgIn.app {l : List (Int × Int)} (h : RgIn l) (x y : Int) (h0 : 0 ≤ x) (h1 : x < y) (h2 : y ≤ 281474976710656) (h3 : y < prv (fF l) l.length) : RgIn (l ++ [(x, y)]) := by
  intro k hk
  rw [List.length_append, List.length_singleton] at hk
  have hp : ∀ k, k ≤ l.length → prv (fF (l ++ [(x, y)])) k = prv (fF l) k := fun k hk => by
    cases k with
    | zero => rfl
    | succ m => exact fF_old _ _ _ (by omega)
  rcases Nat.lt_or_ge k l.length with hlt | hge
  · rw [fF_old _ _ _ hlt, fT_old _ _ _ hlt, hp _ (by omega)]
    exact h k hlt
  · obtain rfl : k = l.length := by omega
    rw [fF_new, fT_new, hp _ (Nat.le_refl _)]
    exact ⟨h0, h1, h2, h3⟩
/-- the cells of a row of spans -/
def scs (l : List (Int × Int)) : List Value := l.flatMap fun p => [.int .i64 p.1, .int .i64 p.2]
theorem scs_snoc (l : List (Int × Int)) (x y : Int) : scs (l ++ [(x, y)]) = scs l ++ [.int .i64 x, .int .i64 y] := by simp [scs]
theorem scs_at (l : List (Int × Int)) (k : Nat) (hk : k < l.length) : (scs l)[k * 2]? = some (.int .i64 (fF l k)) ∧ (scs l)[k * 2 + 1]? = some (.int .i64 (fT l k)) := by
  induction l generalizing k with
  | nil => simp at hk
  | cons p l ih =>
    cases k with
    | zero => simp [scs, fF, fT]
    | succ k =>
      have := ih k (by simpa using hk)
      have e : (k + 1) * 2 = k * 2 + 1 + 1 := by omega
      simp only [scs, List.flatMap_cons, e, List.cons_append, List.nil_append, List.getElem?_cons_succ, fF, fT, List.getD_cons_succ] at this ⊢
      exact this
theorem info103 : (Tryz.prog.info? 103).map (fun i => (i.zero, i.size, i.bytes)) = some (some (.agg #[.int .i64 0, .int .i64 0]), 2, 16) := by kernel_rfl
/-- the slice v holds n spans of whatever ints -/
def SpArg (w : World) (v : Value) (n : Nat) (F T : Nat → Int) : Prop := ∃ a cap, v = .slice a n cap ∧ n ≤ cap ∧ (n = 0 ∨ ∃ g o, a = some ⟨g, o, none⟩ ∧ cap ≤ maxLen ∧
  ∀ k, k < n → w.cell? ⟨g, o + k * 2, none⟩ = some (.int .i64 (F k)) ∧ w.cell? ⟨g, o + k * 2 + 1, none⟩ = some (.int .i64 (T k)) ∧ (Lit.int .i64 (F k)).wf = true ∧ (Lit.int .i64 (T k)).wf = true)
theorem SpArg.below {w w' : World} {v : Value} {n : Nat} {F T : Nat → Int} (h : SpArg w v n F T) (hb : Below w.heap.size w w') : SpArg w' v n F T := by
  obtain ⟨a, cap, h1, h2, h3⟩ := h
  refine ⟨a, cap, h1, h2, h3.imp id ?_⟩
  rintro ⟨g, o, h4, h5, h6⟩
  exact ⟨g, o, h4, h5, fun k hk => ⟨(hb.cell (World.block_lt_of_cell? _ _ (h6 k hk).1)).trans (h6 k hk).1, (hb.cell (World.block_lt_of_cell? _ _ (h6 k hk).2.1)).trans (h6 k hk).2.1, (h6 k hk).2.2⟩⟩
/-- what RangesFrom hands back -/
def RgPost (top : Int) (w : World) (e : Ending) (w' : World) : Prop := ∃ v l, e = .returned v ∧ RgOk (List.length l) (fF l) (fT l) ∧ w'.ownsRow w.heap.size 103 2 v l.length (scs l) ∧ fT l 0 = top ∧ Below w.heap.size w w'
theorem spans_of_row {B : Nat} {w : World} {v : Value} {l : List (Int × Int)} (h : w.ownsRow B 103 2 v l.length (scs l)) (h0 : 0 < l.length) : ∃ g cap cur, v = .slice (some ⟨g, 0, none⟩) l.length cap ∧ B ≤ g ∧ SpansAt w v l.length (fF l) (fT l) ∧ w.heap[g]? = some (.cells cur 103 (0, 0)) := by
  rcases h.2 with ⟨_, hz⟩ | ⟨g, cap, cur, rfl, hbase, hg, r1, r2, r3, r4⟩
  · omega
  · refine ⟨g, cap, cur, rfl, hbase, ⟨g, 0, cap, rfl, r1, r2, fun k hk => ?_⟩, hg⟩
    have h1 := h.cells (g := g) rfl (k * 2) _ (scs_at l k hk).1
    have h2 := h.cells (g := g) rfl (k * 2 + 1) _ (scs_at l k hk).2
    rw [add_plain] at h1 h2
    exact ⟨h1, by rw [show 0 + k * 2 + 1 = 0 + (k * 2 + 1) by omega]; exact h2⟩
theorem rwrap (x : Int) (h0 : -9223372036854775808 ≤ x) (h1 : x ≤ 9223372036854775807) : IntKind.i64.wrap x = x := IntWalk.i64_in _ ⟨h0, h1⟩
end Go.Proofs.YtpfkeohaaeiaaaaGreatDoor.frm
/- Law 13: the reference's Same at packets without frames. -/
namespace Go.Proofs.YtpfkeohaaeiaaaaGreatDoor.frm
open Go.RowKit
set_option maxRecDepth 100000
end Go.Proofs.YtpfkeohaaeiaaaaGreatDoor.frm
/- Law 13: numbers of packets sent; frames of the call's own. -/
namespace Go.Proofs.YtpfkeohaaeiaaaaGreatDoor.frm
open Go.RowKit
set_option maxRecDepth 100000
/-- n packets f 0, f 1 .. sent -/
def sends (f : Nat → Pk) (n : Nat) : Rc := ⟨(List.range n).map f, n, -1⟩
theorem sends_zero (f : Nat → Pk) : sends f 0 = ⟨[], 0, -1⟩ := rfl
theorem sends_succ (f : Nat → Pk) (n : Nat) : (sends f n).add (f n) = sends f (n + 1) := by
  unfold sends Rc.add
  simp [List.range_succ]
theorem pick_small (x m : Int) (h0 : 0 ≤ x) (h1 : x < m) : pickF x m = x := by
  unfold pickF
  rw [if_neg (by omega)]
  exact Int.emod_eq_of_lt h0 h1
def spR (v : Value) (l : List (Int × Int)) : Rw := ⟨103, 2, v, l.length, scs l⟩
variable {w0 w : World} {b M : Nat} {R : Rc} {rows : List Rw} {os : List (Nat × Obj)}
/-- the spans of a frame of the call's own, for Ack -/
theorem Lw.spans (h : Lw w0 w b M R rows os) {v : Value} {l : List (Int × Int)} (hx : spR v l ∈ rows) (h0 : 0 < l.length) :
    SpansAt w v l.length (fF l) (fT l) ∧ (∀ g o c, v = .slice (some ⟨g, o, none⟩) l.length c → g ≠ b) ∧ ∃ g c, v = .slice (some ⟨g, 0, none⟩) l.length c := by
  obtain ⟨g, cap, cur, rfl, _, q2, q3⟩ := spans_of_row (h.rows _ hx).1 h0
  refine ⟨q2, fun g' o c e => ?_, _, _, rfl⟩
  cases e
  intro e
  subst e
  have := h.at_.1
  rw [q3] at this
  cases this
theorem Lw.alloc (h : Lw w0 w b M R rows os) (o : Obj) (hc : isC o = true) : Lw w0 (w.alloc o) b M R rows ((w.heap.size, o) :: os) :=
  (h.below ((Below.refl _ w).alloc (Nat.le_refl _) o)).addOb (heap_alloc_new w o) hc (fun e => by have := heap_lt h.at_.1; omega)
end Go.Proofs.YtpfkeohaaeiaaaaGreatDoor.frm
/- Law 13: CallParams as plain data; ackFrom. -/
namespace Go.Proofs.YtpfkeohaaeiaaaaGreatDoor.frm
open Go.RowKit
set_option maxRecDepth 100000
/-- a CallParams: sv, fsv: what its slices of spans hold -/
structure Cp where
  kind : Int
  ticks : Int
  size : Int
  sv : Value
  last : Int
  ft : Int
  fa : Int
  fb : Int
  fc : Int
  fs : ByteArray
  fin : Bool
  fsv : Value
  p : Pk
def Cp.cells (c : Cp) : Array Value := #[.int .i64 c.kind, .int .i64 c.ticks, .int .i64 c.size, c.sv, .int .i64 c.last, .int .i64 c.ft, .int .i64 c.fa, .int .i64 c.fb, .int .i64 c.fc, .string c.fs, .bool c.fin, c.fsv,
  .int .i64 c.p.pn, .int .i64 c.p.time, .int .i64 c.p.size, .bool c.p.el, c.p.fv]
def I64 (x : Int) : Prop := -9223372036854775808 ≤ x ∧ x ≤ 9223372036854775807
/-- how large the largest number may be: 1 and more -/
def topF (next last : Int) (late : Bool) : Int := (if late then next + 3 else max next 1) - pickF last (min (if late then next + 3 else max next 1) 12)
theorem topF_range (next last : Int) (late : Bool) (h : 0 ≤ next) : 1 ≤ topF next last late ∧ topF next last late ≤ (if late then next + 3 else max next 1) := by
  unfold topF
  cases late <;> simp only [if_true, Bool.false_eq_true, if_false]
  · have := pickF_range last (min (max next 1) 12) (by omega)
    omega
  · have := pickF_range last (min (next + 3) 12) (by omega)
    omega
variable {w0 w : World} {b M : Nat} {R : Rc} {rows : List Rw} {os : List (Nat × Obj)}
def AfPost (w0 w : World) (b M : Nat) (R : Rc) (rows : List Rw) (os : List (Nat × Obj)) (top : Int) (e : Ending) (w' : World) : Prop :=
  ∃ a c l, e = .returned (.agg (ackE 0 (.slice a (List.length l) c))) ∧ RgOk l.length (fF l) (fT l) ∧ fT l 0 = top ∧ Lw w0 w' b M R (spR (.slice a l.length c) l :: rows) os ∧ Below w.heap.size w w'
theorem grown_setRow (w : World) (k : Nat) (cs : Array Value) : w.grownBy (w.setRow k cs) (some k) :=
  ⟨rfl, rfl, rfl, by simp, fun j _ hr => setRow_other w k j cs (fun e => hr (by rw [e]))⟩
theorem row_apart {W : World} {B n z k : Nat} {e T : TypeId} {v : Value} {xs : List Value} {cs : Array Value} {fz : Nat × Nat} (h : W.ownsRow B e z v n xs) (hk : W.heap[k]? = some (.cells cs T fz)) (hT : T ≠ e) : v.ownBlock ≠ some k := by
  intro e1
  rcases h.2 with ⟨rfl, _⟩ | ⟨g, cap, cur, rfl, hbase, hgg, _⟩
  · simp [Value.ownBlock] at e1
  · simp [Value.ownBlock] at e1
    subst e1
    rw [hgg] at hk
    cases hk
    exact hT rfl
/-- the last step of ackFrom: the frame is stored into the result's own block -/
theorem af_end {w4 : World} {k c : Nat} {a : Option Addr} {l : List (Int × Int)} {cs : Array Value} (H : Lw w0 w b M R rows os) (H4 : Lw w0 w4 b M R (spR (.slice a l.length c) l :: rows) os) (hk : w4.heap[k]? = some (.cells cs 56 (0, 0))) (hw : w.heap.size ≤ k) (hb4 : Below w.heap.size w w4) :
    Lw w0 (w4.setRow k (ackE 0 (.slice a l.length c))) b M R (spR (.slice a l.length c) l :: rows) os ∧ Below w.heap.size w (w4.setRow k (ackE 0 (.slice a l.length c))) := by
  have hg := grown_setRow w4 k (ackE 0 (.slice a l.length c))
  have hb : Below w.heap.size w (w4.setRow k (ackE 0 (.slice a l.length c))) := hb4.grown hg hb4.size (fun j e => by cases e; exact hw)
  have hr : spR (.slice a l.length c) l ∈ spR (.slice a l.length c) l :: rows := by simp
  have hrow : (w4.setRow k (ackE 0 (.slice a l.length c))).ownsRow w0.heap.size 103 2 (.slice a l.length c) l.length (scs l) := by
    have h1 : w4.ownsRow w0.heap.size 103 2 (.slice a l.length c) l.length (scs l) := (H4.rows _ hr).1
    exact h1.kept hg (.inr (row_apart h1 hk (by decide)))
  exact ⟨(H.below hb).addRow (spR _ l) hrow (show (103 : Nat) ≠ 80 by decide), hb⟩
theorem hold_store {P : Program} {ops : Array Oper} {rest : List Oper} {o : Oper} {a : Act} {w : World} {Q : Exit → Act → World → Prop} (ty : TypeId) (x y : Operand) (_ho : o.op = .store ty x y) (h : Hid (wpList P ops Q (o :: rest) a w)) : wpList P ops Q (o :: rest) a w := h.out
end Go.Proofs.YtpfkeohaaeiaaaaGreatDoor.frm
/- Law 13: plain laws on what is left behind ACK frames. -/
namespace Go.Proofs.YtpfkeohaaeiaaaaGreatDoor.frm
theorem acked_sub (R : Rc) (n : Nat) (F T : Nat → Int) (now d : Int) : ∀ p ∈ (R.acked n F T now d).l, p ∈ R.l ∧ akF n F T p = false ∧ exF (max R.lg (T 0 - 1)) now d p = false := by
  intro p hp
  obtain ⟨h1, h2⟩ := List.mem_filter.1 hp
  obtain ⟨h3, h4⟩ := List.mem_filter.1 h1
  exact ⟨h3, by simpa using h4, by simpa [Rc.ack] using h2⟩
/-- the same frame again: nothing is acknowledged, nothing lost -/
theorem acked_again (R : Rc) (n : Nat) (F T : Nat → Int) (now d : Int) :
    (R.acked n F T now d).l.filter (akF n F T) = [] ∧ (R.acked n F T now d).lostA n F T now d = [] ∧ (R.acked n F T now d).acked n F T now d = R.acked n F T now d := by
  have h := acked_sub R n F T now d
  have hlg : (R.acked n F T now d).lg = max R.lg (T 0 - 1) := rfl
  have e : max (max R.lg (T 0 - 1)) (T 0 - 1) = max R.lg (T 0 - 1) := by omega
  generalize R.acked n F T now d = Q at *
  have ha : Q.l.filter (akF n F T) = [] := List.filter_eq_nil_iff.2 (fun p hp => by simp [(h p hp).2.1])
  have hk : Q.l.filter (fun p => !akF n F T p) = Q.l := List.filter_eq_self.2 (fun p hp => by simp [(h p hp).2.1])
  have hack : Q.ack n F T = Q := by
    unfold Rc.ack Rc.cut
    rw [hk, hlg, e, ← hlg]
  refine ⟨ha, ?_, ?_⟩
  · unfold Rc.lostA
    rw [hack]
    exact List.filter_eq_nil_iff.2 (fun p hp => by rw [hlg]; simp [(h p hp).2.2])
  · unfold Rc.acked
    rw [hack]
    unfold Rc.cut
    rw [List.filter_eq_self.2 (fun p hp => by rw [hlg]; simp [(h p hp).2.2])]
theorem inF_zero {n : Nat} {F T : Nat → Int} (h : RgOk n F T) : inF n F T (T 0 - 1) = true := by
  have := (h.at_ 0 h.lo).2.1
  exact List.any_eq_true.2 ⟨0, List.mem_range.2 h.lo, by simp only [spF, Bool.and_eq_true, decide_eq_true_eq]; omega⟩
theorem sends_has (f : Nat → Pk) (n : Nat) (g : Pk → Bool) (i : Nat) (hi : i < n) (hg : g (f i) = true) : (sends f n).l.filter g ≠ [] := by
  intro h
  have := List.filter_eq_nil_iff.1 h (f i) (List.mem_map.2 ⟨i, List.mem_range.2 hi, rfl⟩)
  exact this hg
open Go.RowKit
set_option maxRecDepth 100000
/-- New beside blocks of the call's own -/
theorem lw_new2 {w0 w : World} (hb : Below w0.heap.size w0 w) (os : List (Nat × Obj)) (ho : ∀ x ∈ os, w.heap[x.1]? = some x.2 ∧ isC x.2 = true) : Calls Tryz.prog 30 #[] w fun e w' => ∃ b M, e = .returned (.pointer (some ⟨b, 0, none⟩)) ∧ Lw w0 w' b M ⟨[], 0, -1⟩ [] os ∧ Below w.heap.size w w' := by
  refine (new_any w).mono ?_
  rintro e w' ⟨b, M, rfl, h1, h2, h3, h4⟩
  exact ⟨b, M, rfl, ⟨hb.trans (h4.mono hb.size), h3, ⟨⟨by simp, by simp, by simp⟩, by decide, by decide, by decide, by decide, by decide, by simp⟩, by simp, Nat.le_trans hb.size h1, Nat.le_trans hb.size h2, by simp,
    fun x hx => ⟨heap_below h4 (ho x hx).1, (ho x hx).2, by have := heap_lt (ho x hx).1; omega⟩⟩, h4⟩
end Go.Proofs.YtpfkeohaaeiaaaaGreatDoor.frm
/- Law 13: a Tracker as plain data; the iterator over its intervals. -/
namespace Go.Proofs.YtpfkeohaaeiaaaaGreatDoor.frm
open Go.RowKit Go.Sort Go.Shelf
set_option maxRecDepth 100000
attribute [local go_sem] Oper.semAt_some
/-- a Tracker lies at block t: 17 intervals, their number, delay, floor, largest, when, count, due -/
def TkAt (w : World) (t : Nat) (zs : List Int) : Prop := zs.length = 41 ∧ w.heap[t]? = some (.cells (zs.map (Value.int .i64)).toArray 108 (0, 0))
theorem TkAt.cell {w : World} {t : Nat} {zs : List Int} (h : TkAt w t zs) (i : Nat) (hi : i < 41) : w.cell? ⟨t, i, none⟩ = some (.int .i64 (zs[i]?.getD 0)) := by
  obtain ⟨h1, h2⟩ := h
  refine at_whole h2 i ?_
  rw [List.getElem?_toArray, List.getElem?_map, List.getElem?_eq_getElem (by omega)]
  rfl
theorem TkAt.frozen {w : World} {t : Nat} {zs : List Int} (h : TkAt w t zs) (i : Nat) : w.frozen? ⟨t, i, none⟩ = false := frozen_of_row w t i _ 108 h.2
theorem TkAt.block {w w' : World} {t : Nat} {zs : List Int} (h : TkAt w t zs) (hb : w'.heap[t]? = w.heap[t]?) : TkAt w' t zs := ⟨h.1, hb.trans h.2⟩
theorem TkAt.lt {w : World} {t : Nat} {zs : List Int} (h : TkAt w t zs) : t < w.heap.size := heap_lt h.2
theorem TkAt.set {w : World} {t : Nat} {zs : List Int} (h : TkAt w t zs) (i : Nat) (x : Int) : TkAt (w.setCell ⟨t, i, none⟩ (.int .i64 x)) t (zs.set i x) := by
  refine ⟨by rw [List.length_set]; exact h.1, ?_⟩
  rw [heap_setCell_same w t i _ 108 _ h.2, List.map_set]
  simp
/-- the interval at index k, with its index -/
def ivAt (zs : List Int) (k : Nat) : Nat × Int × Int := (k, zs[k * 2]?.getD 0, zs[k * 2 + 1]?.getD 0)
def encIv (x : Nat × Int × Int) : Array Value := #[.int .i64 x.1, .agg #[.int .i64 x.2.1, .int .i64 x.2.2]]
def ivs (zs : List Int) (n : Nat) : List (Nat × Int × Int) := (List.range n).map (ivAt zs)
theorem ivs_succ (zs : List Int) (n : Nat) : ivs zs (n + 1) = ivs zs n ++ [ivAt zs n] := by simp [ivs, List.range_succ]
theorem ivs_pre (zs : List Int) {k n : Nat} (h : k ≤ n) : ivs zs k <+: ivs zs n := by
  obtain ⟨d, rfl⟩ := Nat.exists_eq_add_of_le h
  refine ⟨(List.range d).map (fun i => ivAt zs (k + i)), ?_⟩
  simp [ivs, List.range_add]
/-- the iterator's own box and the Tracker stay -/
def KpT (B t : Nat) (W W' : World) : Prop := W'.heap[B]? = W.heap[B]? ∧ W'.heap[t]? = W.heap[t]?
theorem KpT.refl (B t : Nat) (W : World) : KpT B t W W := ⟨rfl, rfl⟩
theorem KpT.trans {B t : Nat} {a b c : World} (h : KpT B t a b) (k : KpT B t b c) : KpT B t a c := ⟨k.1.trans h.1, k.2.trans h.2⟩
theorem KpT.below {B t n : Nat} {a b : World} (h : Below n a b) (hB : B < n) (ht : t < n) : KpT B t a b := ⟨h.block B hB, h.block t ht⟩
theorem kpT_b {B t m : Nat} (hB : B < m) (ht : t < m) (W : World) (l : Nat) (o o' : Obj) (hl : m ≤ l) (h : W.heap[l]? = some o) (_hc : o.isCells = false) (_hw : o.isWalk = false) : KpT B t W (W.putObj l o') :=
  ⟨(grownBy_putObj' W l o').block B (by have := (Array.getElem?_eq_some_iff.1 h).1; omega) (fun e => by cases e; omega), (grownBy_putObj' W l o').block t (by have := (Array.getElem?_eq_some_iff.1 h).1; omega) (fun e => by cases e; omega)⟩
set_option maxRecDepth 100000 in
set_option maxHeartbeats 4000000 in
theorem iv_in (n : Nat) (hn : 2 ≤ n) (ly B t m : Nat) (zs : List Int) (hm : m ≤ 17) (J Jx : List (Nat × Int × Int) → World → Prop)
    (hY : ∀ pre x W, x ∈ ivs zs m → J pre W → pre.length < m → YieldAt Fence.wide (n - 1) Tryz.prog ly (encIv x) W fun e W' =>
      (e = .returned (.bool true) ∧ J (pre ++ [x]) W' ∧ KpT B t W W') ∨ (e = .returned (.bool false) ∧ Jx (pre ++ [x]) W'))
    (W : World) (hB : W.cell? ⟨B, 0, none⟩ = some (.pointer (some ⟨t, 0, none⟩))) (hT : TkAt W t zs) (hz : zs[34]?.getD (0:Int) = (m:Int)) (h0 : J [] W) :
    CallsIn Fence.wide n Tryz.prog 116 #[.func (.yield ly) #[] #[], .pointer (some ⟨B, 0, none⟩)] W fun e W' => (∃ v, e = .returned v) ∧
      ((∃ ys, ys = ivs zs m ∧ J ys W') ∨ (∃ pre, (∃ k, k < m ∧ pre = ivs zs (k + 1)) ∧ Jx pre W')) := by
  have c34 := hT.cell 34 (by decide)
  rw [hz] at c34
  have HT := Lib.hid hT
  have HJ := Lib.hid h0
  clear hT hz h0
  have h1n : 1 ≤ n := by omega
  refine callsIn_of_wp Tryz.func116 rfl trivial ?_ rfl
  simp only [Tryz.ntmps116, List.size_toArray, List.length_cons, List.length_nil, Nat.reduceAdd, Nat.reduceSub, Array.replicate_succ, Array.replicate_zero, List.push_toArray, List.append_toArray, List.nil_append, List.cons_append]
  gi_wp2
  gi_loopw [8] (fun i wr => ∃ k : Nat, k ≤ m ∧ i = .int .i64 k ∧ J (ivs zs k) wr ∧ KpT B t W wr) (fun i _ => m - (intOf i).toNat)
  case atStart => exact ⟨0, by omega, rfl, HJ.out, KpT.refl _ _ _⟩
  case round =>
    obtain ⟨k, hk, rfl, hJ, hb⟩ := hrel
    have cB : wr.cell? ⟨B, 0, none⟩ = some (.pointer (some ⟨t, 0, none⟩)) := (World.cell?_of_block (a := ⟨B, 0, none⟩) hb.1).trans hB
    have HB := Lib.hid hb
    have Tk : TkAt wr t zs := HT.out.block hb.2
    clear hb
    by_cases hlt : k < m
    · have d0 := Tk.cell (k * 2) (by omega)
      have d1 := Tk.cell (k * 2 + 1) (by omega)
      have hts := Lib.hid (ivs_succ zs k)
      obtain ⟨fn, tmps, assign, body, hy, hR⟩ := hY _ (ivAt zs k) wr (List.mem_map.2 ⟨k, List.mem_range.2 hlt, rfl⟩) hJ (by simp [ivs]; omega)
      simp only [encIv, ivAt] at hy
      have HR := Lib.hid hR
      clear hR hJ Tk
      generalize zs[k * 2]?.getD 0 = f0 at *
      generalize zs[k * 2 + 1]?.getD 0 = t0 at *
      have i0 : (k : Int) < (m : Int) := by omega
      gi_wp2
      refine HR.out.mono ?_
      rintro e W3 (⟨rfl, hJ3, hk3⟩ | ⟨rfl, hJx3⟩)
      · have K3 := Lib.hid (And.intro hJ3 hk3)
        clear hk3 hJ3 hy cB d0 d1
        gi_wp2
        go_roundw
        case rel => exact ⟨k + 1, by omega, by go_num, by rw [hts.out]; exact K3.out.1, HB.out.trans K3.out.2⟩
        case measure => simp [intOf]; omega
      · have K3 := Lib.hid hJx3
        clear hJx3 hy cB d0 d1
        gi_wp2
        refine bodyPost_ret (results_none rfl _ _ _) rfl ?_
        exact ⟨⟨_, rfl⟩, .inr ⟨_, ⟨k, hlt, hts.out.symm ▸ rfl⟩, K3.out⟩⟩
    · obtain rfl : k = m := by omega
      clear hlt Tk
      gi_wp2
      go_end0
      exact ⟨⟨_, rfl⟩, .inl ⟨_, rfl, hJ⟩⟩
theorem iv_stops (n : Nat) (hn : 2 ≤ n) (B t m : Nat) (zs : List Int) (hm : m ≤ 17) (W : World) (hBl : B < W.heap.size) (hB : W.cell? ⟨B, 0, none⟩ = some (.pointer (some ⟨t, 0, none⟩))) (hT : TkAt W t zs) (hz : zs[34]?.getD (0:Int) = (m:Int)) :
    SeqStopsK Fence.wide n Tryz.prog 116 #[.pointer (some ⟨B, 0, none⟩)] encIv (KpT B t) (fun ys => ys = ivs zs m) (fun pre => ∃ k, k < m ∧ pre = ivs zs (k + 1)) m W := fun ly J Jx W2 hW _ _ hY h0 => by
  refine (iv_in n hn ly B t m zs hm J Jx (fun pre x W _ h hl => hY pre x W h hl) W2 ((hW.cell (p := ⟨B, 0, none⟩) hBl).trans hB) (hT.block (hW.block t hT.lt)) hz h0).mono ?_
  rintro e W' ⟨h1, h2⟩
  exact ⟨h1, h2⟩
abbrev InIv (zs : List Int) (m : Nat) := { x : Nat × Int × Int // x ∈ ivs zs m }
theorem iv_stopsS (n : Nat) (hn : 2 ≤ n) (B t m : Nat) (zs : List Int) (hm : m ≤ 17) (W : World) (hBl : B < W.heap.size) (hB : W.cell? ⟨B, 0, none⟩ = some (.pointer (some ⟨t, 0, none⟩))) (hT : TkAt W t zs) (hz : zs[34]?.getD (0:Int) = (m:Int)) :
    SeqStopsK Fence.wide n Tryz.prog 116 #[.pointer (some ⟨B, 0, none⟩)] (fun x : InIv zs m => encIv x.1) (KpT B t) (fun ys => ys.map (·.1) = ivs zs m) (fun _ => True) m W := fun ly J Jx W2 hW _ _ hY h0 => by
  refine (iv_in n hn ly B t m zs hm (fun pre W => ∃ pre' : List (InIv zs m), pre'.map (·.1) = pre ∧ J pre' W) (fun pre W => ∃ pre' : List (InIv zs m), pre'.map (·.1) = pre ∧ Jx pre' W) ?_ W2 ((hW.cell (p := ⟨B, 0, none⟩) hBl).trans hB) (hT.block (hW.block t hT.lt)) hz ⟨[], rfl, h0⟩).mono ?_
  · rintro pre x W hx ⟨pre', rfl, hj⟩ hlen
    refine (hY pre' ⟨x, hx⟩ W hj (by simpa using hlen)).mono ?_
    rintro e W' (⟨h1, h2, h3⟩ | ⟨h1, h2⟩)
    · exact .inl ⟨h1, ⟨pre' ++ [⟨x, hx⟩], by simp, h2⟩, h3⟩
    · exact .inr ⟨h1, pre' ++ [⟨x, hx⟩], by simp, h2⟩
  · rintro e W' ⟨h1, h2⟩
    refine ⟨h1, ?_⟩
    rcases h2 with ⟨ys, rfl, ys', e, hj⟩ | ⟨pre, _, pre', _, hj⟩
    · exact .inl ⟨ys', e, hj⟩
    · exact .inr ⟨pre', trivial, hj⟩
end Go.Proofs.YtpfkeohaaeiaaaaGreatDoor.frm
/- A scope through which the run goes without a goto, inside a fence (the library's wp_scope_straight has no fenced twin). -/
namespace Go.Proofs.YtpfkeohaaeiaaaaGreatDoor.frm
theorem stepR_scope {P : Program} {b : Frame} {a : Act} {k : List Item} {cs : List Frame} {w : World} {c : Code} : step P (lone (b.atR a (.code (.scope c) :: k)) cs w) = .next (lone (b.atR a (.code c :: .inScope c :: k)) cs w) :=
  step_lone_go (by simp [stepG, stepG.exec, Frame.atR])
theorem stepR_inScope {P : Program} {b : Frame} {a : Act} {k : List Item} {cs : List Frame} {w : World} {c : Code} : step P (lone (b.atR a (.inScope c :: k)) cs w) = .next (lone (b.atR a k) cs w) :=
  step_lone_go (by simp [stepG, stepG.exec, Frame.atR])
theorem wpIn_scope_straight {F : Fence} {n : Nat} {P : Program} {Q : Exit → Act → World → Prop} {a : Act} {w : World} {c : Code} (h : c.wpIn F n P (Exit.noGoto Q) a w) : (Code.scope c).wpIn F n P Q a w := by
  intro b k cs hro hb hr
  have h0 : (lone (b.atR a (.code (.scope c) :: k)) cs w).fenced P F := fenced_calm hb hr rfl
  obtain ⟨e, a₁, w₁, hq, harr⟩ := h b (.inScope c :: k) cs hro hb hr
  cases e with
  | normal => exact ⟨.normal, a₁, w₁, hq, .head h0 stepR_scope (StepsIn.trans harr (.one (fenced_calm hb hr rfl) stepR_inScope))⟩
  | exit id =>
    have hx : exitTo id (.inScope c :: k) = exitTo id k := by simp [exitTo]
    exact ⟨.exit id, a₁, w₁, hq, fun k' hk => .head h0 stepR_scope (harr.1 k' (by rw [hx]; exact hk)),
      fun hr' hk => let ⟨k₁, h1, h2⟩ := harr.2 hr' (by rw [hx]; exact hk); ⟨k₁, h1, .head h0 stepR_scope h2⟩⟩
  | goto l => exact hq.elim
  | ret => exact ⟨_, a₁, w₁, hq, .of_steps (.one h0 stepR_scope) harr⟩
  | panic ch => exact ⟨_, a₁, w₁, hq, .of_steps (.one h0 stepR_scope) harr⟩
  | outgrown => exact ⟨_, a₁, w₁, hq, .of_steps (.one h0 stepR_scope) harr⟩
end Go.Proofs.YtpfkeohaaeiaaaaGreatDoor.frm
