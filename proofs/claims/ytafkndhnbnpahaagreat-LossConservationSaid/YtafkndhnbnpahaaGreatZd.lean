/- Law 13: Ack. -/
import Derived.Test.YtafkndhnbnpahaaGreatZc
namespace Go.Proofs.YtafkndhnbnpahaaGreat
open Go.RowKit Go.Maps
theorem wpList_load_row_g {P : Program} {ops : Array Oper} {rest : List Oper} {o : Oper} {a : Act} {w : World} {Q : Exit → Act → World → Prop} (hw : Region.wanted o (yielded ops a.tmps) = true) (ty : TypeId) (x : Operand) (ho : o.op = .load ty x)
    (g : Nat) (hx : a.eval x = .pointer (some ⟨g, 0, none⟩)) (t : TypeId) (cs : Array Value) (fr : Nat × Nat) (d : TypeDesc) (hg : w.heap[g]? = some (.cells cs t fr))
    (hu : P.underlying ty = some d) (hd : (match d with | .struct _ | .array _ _ => true | _ => false) = true) (hi : (P.info? ty).map (·.size) = some cs.size)
    (h : wpList P ops Q rest (a.put o.dst (.agg cs)) w) : wpList P ops Q (o :: rest) a w := by
  rw [wpList, if_pos hw]
  exact .inl (wp_load_row ty x ho g hx t cs fr d hg hu hd hi h)
/-- what is left behind the acknowledgment itself -/
def Rc.ack (R : Rc) (n : Nat) (F T : Nat → Int) : Rc := { R.cut (akF n F T) with lg := max R.lg (T 0 - 1) }
theorem Rc.Ok.ack {R : Rc} (h : R.Ok) (n : Nat) (F T : Nat → Int) (h1 : T 0 ≤ R.nx) : (R.ack n F T).Ok := by
  have c := h.cut (akF n F T)
  exact ⟨c.up, c.n0, c.n1, by have := h.g0; show -1 ≤ max R.lg (T 0 - 1); omega, by have := h.g1; show max R.lg (T 0 - 1) < R.nx; omega, c.len, c.tm⟩
def AckPost (b M : Nat) (R : Rc) (n : Nat) (F T : Nat → Int) (now d : Int) (w : World) (e : Ending) (w' : World) : Prop :=
  ∃ va vl, e = .returned (.tuple #[va, vl, .int .i64 0]) ∧ PkRow w.heap.size w' va (R.l.filter (akF n F T)) ∧ PkRow w.heap.size w' vl ((R.ack n F T).l.filter (exF (R.ack n F T).lg now d)) ∧
    RecAt w' b M ((R.ack n F T).cut (exF (R.ack n F T).lg now d)) ∧ Tu b M w w'
set_option maxRecDepth 100000 in
set_option maxHeartbeats 8000000 in
theorem ack_unsent {w : World} {b M : Nat} {R : Rc} (hR : RecAt w b M R) (_ok : R.Ok) (dl : Int) (rv : Value) (n : Nat) (F T : Nat → Int) (now d : Int) (h0 : 0 ≤ dl) (h1 : dl ≤ 4611686018427387903) (hG : RgOk n F T) (hS : SpansAt w rv n F T) (hn : 0 ≤ now) (hd : 0 ≤ d)
    (hT : R.nx < T 0) : Calls Tryz.prog 15 #[.pointer (some ⟨b, 0, none⟩), .int .i64 now, .agg (ackE dl rv), .int .i64 d] w fun e w' => e = .returned (.tuple #[.slice none 0 0, .slice none 0 0, .int .i64 130]) ∧ Below w.heap.size w w' := by
  have X := Lib.hid (box1 w (.cells (ackE dl rv) 41))
  have VA := Lib.hid (valid_ack dl rv n F T _ h0 h1 hG (hS.below X.out.2.1))
  obtain ⟨g, o, cap, hrv, hcap, hm, hsp⟩ := hS
  subst hrv
  have c0 := (hsp 0 hG.lo).2
  rw [Nat.zero_mul, Nat.add_zero] at c0
  have cl := World.block_lt_of_cell? _ _ c0
  have hn1 := hG.lo
  have hbl := heap_lt hR.1
  have HF := Lib.hid (fun W (h : Below w.heap.size w W) => And.intro ((h.cell (p := ⟨g, o + 1, none⟩) cl).trans c0) (at_whole (heap_below h hR.1) 1 rfl))
  have hgt : (R.nx < T 0) = True := eq_true hT
  have gn : (now < 0) = False := eq_false (by omega)
  have gd : (d < 0) = False := eq_false (by omega)
  unfold maxLen at hm
  clear hR hG hsp c0 cl
  unfold ackE at *
  have x0 := at_whole X.out.1 0 rfl
  simp only [List.getElem_toArray, List.getElem_cons_zero] at x0
  have i0 : (0 : Int) < (n : Int) := by omega
  go_enter Tryz.func15, Tryz.ntmps15
  go_wp2_with (first | (refine wpList_load_row_g rfl 41 _ rfl w.heap.size rfl 41 _ (0, 0) _ X.out.1 Tryz.underlying41 rfl size41 ?_))
  generalize w.alloc _ = V at X VA x0 ⊢
  refine VA.out.mono ?_
  rintro e V1 ⟨rfl, hb1⟩
  have XB := Lib.hid (btrans X.out.2.1 hb1)
  have XF := Lib.hid (heap_below hb1 X.out.1)
  have y9 := at_whole XF.out 9 rfl
  have yT := (HF.out V1 XB.out).1
  have yN := (HF.out V1 XB.out).2
  simp only [List.getElem_toArray, List.getElem_cons_zero, List.getElem_cons_succ] at y9 yN
  clear x0 hb1
  go_wp2
  go_quiet (fail)
  go_wp2
  go_ret3
  exact ⟨rfl, belowN XB.out _⟩
set_option maxRecDepth 100000 in
set_option maxHeartbeats 8000000 in
theorem ack_any {w : World} {b M : Nat} {R : Rc} (hR : RecAt w b M R) (ok : R.Ok) (dl : Int) (rv : Value) (n : Nat) (F T : Nat → Int) (now d : Int) (h0 : 0 ≤ dl) (h1 : dl ≤ 4611686018427387903) (hG : RgOk n F T) (hS : SpansAt w rv n F T) (hn : 0 ≤ now) (hd : 0 ≤ d)
    (hn' : now ≤ 9223372036854775807) (hd' : d ≤ 9223372036854775807)
    (hT : T 0 ≤ R.nx) (hgb : ∀ g o c, rv = .slice (some ⟨g, o, none⟩) n c → g ≠ b) : Calls Tryz.prog 15 #[.pointer (some ⟨b, 0, none⟩), .int .i64 now, .agg (ackE dl rv), .int .i64 d] w (AckPost b M R n F T now d w) := by
  have X := Lib.hid (box1 w (.cells (ackE dl rv) 41))
  have VA := Lib.hid (valid_ack dl rv n F T _ h0 h1 hG (hS.below X.out.2.1))
  have SP := Lib.hid hS
  obtain ⟨g, o, cap, hrv, hcap, hm, hsp⟩ := hS
  have hgb2 := hgb g o cap hrv
  clear hgb
  subst hrv
  have c0 := (hsp 0 hG.lo).2
  rw [Nat.zero_mul, Nat.add_zero] at c0
  have cl := World.block_lt_of_cell? _ _ c0
  have hn1 := hG.lo
  have hn2 := hG.hi
  have hT0 := (hG.at_ 0 hG.lo).1
  have hT1 := (hG.at_ 0 hG.lo).2.1
  have hbl := heap_lt hR.1
  have HF := Lib.hid (fun W (h : Below w.heap.size w W) => And.intro ((h.cell (p := ⟨g, o + 1, none⟩) cl).trans c0) (at_whole (heap_below h hR.1) 1 rfl))
  have HR := Lib.hid hR
  have OK := Lib.hid ok
  have HT := Lib.hid hT
  have hgt : (R.nx < T 0) = False := eq_false (by omega)
  have gn : (now < 0) = False := eq_false (by omega)
  have gd : (d < 0) = False := eq_false (by omega)
  have hnx := ok.n1
  unfold maxLen at hm
  clear hR ok hG hsp c0 cl hT
  unfold ackE at *
  have x0 := at_whole X.out.1 0 rfl
  simp only [List.getElem_toArray, List.getElem_cons_zero] at x0
  have i0 : (0 : Int) < (n : Int) := by omega
  have hmf := mkf
  go_enter Tryz.func15, Tryz.ntmps15
  go_wp2_with (first | (refine wpList_load_row_g rfl 41 _ rfl w.heap.size rfl 41 _ (0, 0) _ X.out.1 Tryz.underlying41 rfl size41 ?_))
  generalize w.alloc _ = V at X VA x0 ⊢
  refine VA.out.mono ?_
  rintro e V1 ⟨rfl, hb1⟩
  have XB := Lib.hid (btrans X.out.2.1 hb1)
  have XF := Lib.hid (heap_below hb1 X.out.1)
  have y9 := at_whole XF.out 9 rfl
  have yT := (HF.out V1 XB.out).1
  have yN := (HF.out V1 XB.out).2
  simp only [List.getElem_toArray, List.getElem_cons_zero, List.getElem_cons_succ] at y9 yN
  clear x0 hb1
  go_wp2
  go_quiet (fail)
  go_wp2_with fail
  have Y := Lib.hid (show (V1.drewN nq).heap[w.heap.size]? = _ ∧ Below w.heap.size w (V1.drewN nq) from ⟨XF.out, belowN XB.out _⟩)
  clear y9 yT yN XB XF X VA
  generalize V1.drewN nq = V2 at Y ⊢
  refine (remove_any (HR.out.below Y.out.2) OK.out (k := 41) (lb := #[.pointer (some ⟨w.heap.size, 0, none⟩)]) (f := akF n F T)
    (fun p hp W hW => want41 p w.heap.size n F T _ _ W (by omega) (SP.out.below (btrans Y.out.2 hW)) (heap_below hW Y.out.1) rfl) ek41).mono ?_
  rintro e V3 ⟨va, rfl, hva, hR3, hT3⟩
  have hne : w.heap.size ≠ b := by omega
  have hRY := HR.out.below Y.out.2
  have hneM : w.heap.size ≠ M := fun e => by
    obtain ⟨D, hD, _⟩ := hRY.2
    subst e
    have := hD.no_cells Y.out.1
    cases this
  have F3 := Lib.hid ((hT3.block _ (heap_lt Y.out.1) hne hneM).trans Y.out.1)
  have gT : V2.cell? ⟨g, o + 1, none⟩ = some (.int .i64 (T 0)) := (HF.out V2 Y.out.2).1
  have gl := World.block_lt_of_cell? _ _ gT
  have hgM : g ≠ M := fun e => by
    obtain ⟨D, hD, _⟩ := hRY.2
    subst e
    obtain ⟨es, clock, hh, _⟩ := hD
    simp [World.cell?, hh] at gT
  have z9 := at_whole F3.out 9 rfl
  have zT : V3.cell? ⟨g, o + 1, none⟩ = some (.int .i64 (T 0)) := (World.cell?_of_block (a := ⟨g, o + 1, none⟩) (hT3.block g gl hgb2 hgM)).trans gT
  have zb := at_whole hR3.1 2 rfl
  have zf := frozen_whole hR3.1 2
  simp only [List.getElem_toArray, List.getElem_cons_zero, List.getElem_cons_succ, Rc.cut] at z9 zb
  have wT : IntKind.i64.wrap (T 0 - 1) = T 0 - 1 := IntWalk.i64_in _ (by have := HT.out; omega)
  have H3 := Lib.hid (And.intro (hva.base Y.out.2.size) (And.intro hR3 ((Tu.below Y.out.2).trans hT3)))
  have lo := OK.out.g0
  have hi := OK.out.g1
  clear hva hR3 hT3 gT hRY
  have n0 : (0 < n) = True := eq_true (by omega)
  go_wp2
  go_still_tail 14, (by kernel_rfl)
  go_wp2_with fail
  have R4 := Lib.hid (show RecAt ((V3.setCell ⟨b, 2, none⟩ (.int .i64 (max R.lg (T 0 - 1)))).drew) b M (R.ack n F T) from
    ⟨heap_set (w := V3) _ H3.out.2.1.1, MapPk.of_block (w := V3) H3.out.2.1.2 (heap_setCell_other V3 _ _ _ (fun e => H3.out.2.1.ne (by exact e.symm)))⟩)
  have T4 := Lib.hid (show Tu b M w ((V3.setCell ⟨b, 2, none⟩ (.int .i64 (max R.lg (T 0 - 1)))).drew) from (H3.out.2.2.trans (Tu.set _ _ _)).drew)
  have A4 := Lib.hid (H3.out.1.turn (w' := (V3.setCell ⟨b, 2, none⟩ (.int .i64 (max R.lg (T 0 - 1)))).drew) H3.out.2.1 (Tu.set V3 _ _).drew)
  clear z9 zT zb zf H3 F3 gl wT
  go_wp2_with fail
  generalize (V3.setCell _ _).drew = V4 at R4 T4 A4 ⊢
  refine (expire_any R4.out (OK.out.ack n F T HT.out) now d hn hn' hd hd').mono ?_
  rintro e V5 ⟨vl, rfl, h1, h2, h3⟩
  have H5 := Lib.hid (And.intro (A4.out.turn R4.out h3) (And.intro (h1.base T4.out.size) (And.intro h2 (T4.out.trans h3))))
  clear h1 h2 h3
  go_wp2
  go_ret3
  exact ⟨va, vl, rfl, H5.out.1, H5.out.2.1, H5.out.2.2.1, H5.out.2.2.2⟩
end Go.Proofs.YtafkndhnbnpahaaGreat
