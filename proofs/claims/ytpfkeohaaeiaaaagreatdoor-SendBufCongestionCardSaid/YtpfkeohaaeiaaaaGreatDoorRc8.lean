/- Texts FZd FZe FZf FZg FZh FZi FZj FZk FZl FTka FScope FTkb FTkc FCopy FTkd FTke of this claim, one behind the other. -/
import Derived.Test.YtpfkeohaaeiaaaaGreatDoorRc7
import Derived.Deep.QuietTactic
import Derived.Test.YtpfkeohaaeiaaaaGreatDoorRc3
import Derived.ControlIn
import Derived.Scope
import Derived.ScopeJumps
import Derived.Laws.CopyOwn
import Derived.Laws.IdiomCopy
import Derived.Laws.CopyRow
import Derived.StillTailTactics
/- Law 13: Ack. -/
namespace Go.Proofs.YtpfkeohaaeiaaaaGreatDoor.frm
open Go.RowKit Go.Maps
set_option maxRecDepth 100000
theorem wpList_load_row_g {P : Program} {ops : Array Oper} {rest : List Oper} {o : Oper} {a : Act} {w : World} {Q : Exit → Act → World → Prop} (hw : Region.wanted o (yielded ops a.tmps) = true) (ty : TypeId) (x : Operand) (ho : o.op = .load ty x)
    (g : Nat) (hx : a.eval x = .pointer (some ⟨g, 0, none⟩)) (t : TypeId) (cs : Array Value) (fr : Nat × Nat) (d : TypeDesc) (hg : w.heap[g]? = some (.cells cs t fr))
    (hu : P.underlying ty = some d) (hd : (match d with | .struct _ | .array _ _ => true | _ => false) = true) (hi : (P.info? ty).map (·.size) = some cs.size)
    (h : wpList P ops Q rest (a.put o.dst (.agg cs)) w) : wpList P ops Q (o :: rest) a w := by
  rw [wpList, if_pos hw]
  exact .inl (wp_load_row ty x ho g hx t cs fr d hg hu hd hi h)
/-- what is left behind the acknowledgment itself -/
def Rc.ack (R : Rc) (n : Nat) (F T : Nat → Int) : Rc := { R.cut (akF n F T) with lg := max R.lg (T 0 - 1) }
theorem Rc.Ok.ack {R : Rc} (h : R.Ok) (n : Nat) (F T : Nat → Int) (h1 : T 0 ≤ R.nx) : (R.ack n F T).Ok := by
  have c := h.cut (akF n F T)
  exact ⟨c.up, c.n0, c.n1, by have := h.g0; show -1 ≤ max R.lg (T 0 - 1); omega, by have := h.g1; show max R.lg (T 0 - 1) < R.nx; omega, c.len, c.tm⟩
def AckPost (b M : Nat) (R : Rc) (n : Nat) (F T : Nat → Int) (now d : Int) (w : World) (e : Ending) (w' : World) : Prop :=
  ∃ va vl, e = .returned (.tuple #[va, vl, .int .i64 0]) ∧ PkRow w.heap.size w' va (R.l.filter (akF n F T)) ∧ PkRow w.heap.size w' vl ((R.ack n F T).l.filter (exF (R.ack n F T).lg now d)) ∧
    RecAt w' b M ((R.ack n F T).cut (exF (R.ack n F T).lg now d)) ∧ Tu b M w w'
set_option maxRecDepth 100000 in
set_option maxHeartbeats 8000000 in
theorem ack_any {w : World} {b M : Nat} {R : Rc} (hR : RecAt w b M R) (ok : R.Ok) (dl : Int) (rv : Value) (n : Nat) (F T : Nat → Int) (now d : Int) (h0 : 0 ≤ dl) (h1 : dl ≤ 4611686018427387903) (hG : RgOk n F T) (hS : SpansAt w rv n F T) (hn : 0 ≤ now) (hd : 0 ≤ d)
    (hn' : now ≤ 9223372036854775807) (hd' : d ≤ 9223372036854775807)
    (hT : T 0 ≤ R.nx) (hgb : ∀ g o c, rv = .slice (some ⟨g, o, none⟩) n c → g ≠ b) : Calls Tryz.prog 60 #[.pointer (some ⟨b, 0, none⟩), .int .i64 now, .agg (ackE dl rv), .int .i64 d] w (AckPost b M R n F T now d w) := by
  have X := Lib.hid (box1 w (.cells (ackE dl rv) 56))
  have VA := Lib.hid (valid_ack dl rv n F T _ h0 h1 hG (hS.below X.out.2.1))
  have SP := Lib.hid hS
  obtain ⟨g, o, cap, hrv, hcap, hm, hsp⟩ := hS
  have hgb2 := hgb g o cap hrv
  clear hgb
  subst hrv
  have c0 := (hsp 0 hG.lo).2
  rw [Nat.zero_mul, Nat.add_zero] at c0
  have cl := World.block_lt_of_cell? _ _ c0
  have hn1 := hG.lo
  have hn2 := hG.hi
  have hT0 := (hG.at_ 0 hG.lo).1
  have hT1 := (hG.at_ 0 hG.lo).2.1
  have hbl := heap_lt hR.1
  have HF := Lib.hid (fun W (h : Below w.heap.size w W) => And.intro ((h.cell (p := ⟨g, o + 1, none⟩) cl).trans c0) (at_whole (heap_below h hR.1) 1 rfl))
  have HR := Lib.hid hR
  have OK := Lib.hid ok
  have HT := Lib.hid hT
  have hgt : (R.nx < T 0) = False := eq_false (by omega)
  have gn : (now < 0) = False := eq_false (by omega)
  have gd : (d < 0) = False := eq_false (by omega)
  have hnx := ok.n1
  unfold maxLen at hm
  clear hR ok hG hsp c0 cl hT
  unfold ackE at *
  have x0 := at_whole X.out.1 0 rfl
  simp only [List.getElem_toArray, List.getElem_cons_zero] at x0
  have i0 : (0 : Int) < (n : Int) := by omega
  have hmf := mkf
  go_enter Tryz.func60, Tryz.ntmps60
  go_wp2_with (first | (refine wpList_load_row_g rfl 56 _ rfl w.heap.size rfl 56 _ (0, 0) _ X.out.1 Tryz.underlying56 rfl size56 ?_))
  generalize w.alloc _ = V at X VA x0 ⊢
  refine VA.out.mono ?_
  rintro e V1 ⟨rfl, hb1⟩
  have XB := Lib.hid (btrans X.out.2.1 hb1)
  have XF := Lib.hid (heap_below hb1 X.out.1)
  have y9 := at_whole XF.out 9 rfl
  have yT := (HF.out V1 XB.out).1
  have yN := (HF.out V1 XB.out).2
  simp only [List.getElem_toArray, List.getElem_cons_zero, List.getElem_cons_succ] at y9 yN
  clear x0 hb1
  go_wp2
  go_quiet (fail)
  go_wp2_with fail
  have Y := Lib.hid (show (V1.drewN nq).heap[w.heap.size]? = _ ∧ Below w.heap.size w (V1.drewN nq) from ⟨XF.out, belowN XB.out _⟩)
  clear y9 yT yN XB XF X VA
  generalize V1.drewN nq = V2 at Y ⊢
  refine (remove_any (HR.out.below Y.out.2) OK.out (k := 86) (lb := #[.pointer (some ⟨w.heap.size, 0, none⟩)]) (f := akF n F T)
    (fun p hp W hW => want41 p w.heap.size n F T _ _ W (by omega) (SP.out.below (btrans Y.out.2 hW)) (heap_below hW Y.out.1) rfl) ek41).mono ?_
  rintro e V3 ⟨va, rfl, hva, hR3, hT3⟩
  have hne : w.heap.size ≠ b := by omega
  have hRY := HR.out.below Y.out.2
  have hneM : w.heap.size ≠ M := fun e => by
    obtain ⟨D, hD, _⟩ := hRY.2
    subst e
    have := hD.no_cells Y.out.1
    cases this
  have F3 := Lib.hid ((hT3.block _ (heap_lt Y.out.1) hne hneM).trans Y.out.1)
  have gT : V2.cell? ⟨g, o + 1, none⟩ = some (.int .i64 (T 0)) := (HF.out V2 Y.out.2).1
  have gl := World.block_lt_of_cell? _ _ gT
  have hgM : g ≠ M := fun e => by
    obtain ⟨D, hD, _⟩ := hRY.2
    subst e
    obtain ⟨es, clock, hh, _⟩ := hD
    simp [World.cell?, hh] at gT
  have z9 := at_whole F3.out 9 rfl
  have zT : V3.cell? ⟨g, o + 1, none⟩ = some (.int .i64 (T 0)) := (World.cell?_of_block (a := ⟨g, o + 1, none⟩) (hT3.block g gl hgb2 hgM)).trans gT
  have zb := at_whole hR3.1 2 rfl
  have zf := frozen_whole hR3.1 2
  simp only [List.getElem_toArray, List.getElem_cons_zero, List.getElem_cons_succ, Rc.cut] at z9 zb
  have wT : IntKind.i64.wrap (T 0 - 1) = T 0 - 1 := IntWalk.i64_in _ (by have := HT.out; omega)
  have H3 := Lib.hid (And.intro (hva.base Y.out.2.size) (And.intro hR3 ((Tu.below Y.out.2).trans hT3)))
  have lo := OK.out.g0
  have hi := OK.out.g1
  clear hva hR3 hT3 gT hRY
  have n0 : (0 < n) = True := eq_true (by omega)
  go_wp2
  go_still_tail 14, (by kernel_rfl)
  go_wp2_with fail
  have R4 := Lib.hid (show RecAt ((V3.setCell ⟨b, 2, none⟩ (.int .i64 (max R.lg (T 0 - 1)))).drew) b M (R.ack n F T) from
    ⟨heap_set (w := V3) _ H3.out.2.1.1, MapPk.of_block (w := V3) H3.out.2.1.2 (heap_setCell_other V3 _ _ _ (fun e => H3.out.2.1.ne (by exact e.symm)))⟩)
  have T4 := Lib.hid (show Tu b M w ((V3.setCell ⟨b, 2, none⟩ (.int .i64 (max R.lg (T 0 - 1)))).drew) from (H3.out.2.2.trans (Tu.set _ _ _)).drew)
  have A4 := Lib.hid (H3.out.1.turn (w' := (V3.setCell ⟨b, 2, none⟩ (.int .i64 (max R.lg (T 0 - 1)))).drew) H3.out.2.1 (Tu.set V3 _ _).drew)
  clear z9 zT zb zf H3 F3 gl wT
  go_wp2_with fail
  generalize (V3.setCell _ _).drew = V4 at R4 T4 A4 ⊢
  refine (expire_any R4.out (OK.out.ack n F T HT.out) now d hn hn' hd hd').mono ?_
  rintro e V5 ⟨vl, rfl, h1, h2, h3⟩
  have H5 := Lib.hid (And.intro (A4.out.turn R4.out h3) (And.intro (h1.base T4.out.size) (And.intro h2 (T4.out.trans h3))))
  clear h1 h2 h3
  go_wp2
  go_ret3
  exact ⟨va, vl, rfl, H5.out.1, H5.out.2.1, H5.out.2.2.1, H5.out.2.2.2⟩
end Go.Proofs.YtpfkeohaaeiaaaaGreatDoor.frm
/- Law 13: a nil Recovery; numbers. -/
namespace Go.Proofs.YtpfkeohaaeiaaaaGreatDoor.frm
open Go.RowKit Go.Maps
set_option maxRecDepth 100000
end Go.Proofs.YtpfkeohaaeiaaaaGreatDoor.frm
/- Law 13: a Recovery of the call's own, rows and blocks of the call's own beside it: the contracts for the laws. -/
namespace Go.Proofs.YtpfkeohaaeiaaaaGreatDoor.frm
open Go.RowKit Go.Maps
set_option maxRecDepth 100000
structure Rw where
  e : TypeId
  z : Nat
  v : Value
  n : Nat
  xs : List Value
def pkR (v : Value) (l : List Pk) : Rw := ⟨49, 5, v, l.length, pcs l⟩
structure Lw (w0 w : World) (b M : Nat) (R : Rc) (rows : List Rw) (os : List (Nat × Obj)) : Prop where
  bel : Below w0.heap.size w0 w
  at_ : RecAt w b M R
  ok : R.Ok
  nil : ∀ p ∈ R.l, p.fv = .slice none 0 0
  ownb : w0.heap.size ≤ b
  ownM : w0.heap.size ≤ M
  rows : ∀ x ∈ rows, w.ownsRow w0.heap.size x.e x.z x.v x.n x.xs ∧ x.e ≠ 80
  os : ∀ x ∈ os, w.heap[x.1]? = some x.2 ∧ isC x.2 = true ∧ x.1 ≠ b
variable {w0 w w' : World} {b M : Nat} {R R' : Rc} {rows : List Rw} {os : List (Nat × Obj)}
theorem RecAt.noC (h : RecAt w b M R) {o : Obj} (ho : w.heap[M]? = some o) : isC o = false := by
  obtain ⟨D, h1, _⟩ := h.2
  exact h1.no_cells ho
theorem row_turn {B n z : Nat} {e : TypeId} {v : Value} {xs : List Value} (h : w.ownsRow B e z v n xs) (he : e ≠ 80) (hR : RecAt w b M R) (ht : Tu b M w w') : w'.ownsRow B e z v n xs := by
  refine ⟨h.1, ?_⟩
  rcases h.2 with h1 | ⟨g, cap, cur, rfl, hb, hgg, rest⟩
  · exact .inl h1
  · refine .inr ⟨g, cap, cur, rfl, hb, (ht.block g (heap_lt hgg) (fun e2 => ?_) (fun e2 => ?_)).trans hgg, rest⟩
    · subst e2; rw [hR.1] at hgg; cases hgg; exact he rfl
    · subst e2; have := hR.noC hgg; cases this
theorem Lw.turn (h : Lw w0 w b M R rows os) (hR : RecAt w' b M R') (ok : R'.Ok) (nil : ∀ p ∈ R'.l, p.fv = .slice none 0 0) (hT : Tu b M w w') : Lw w0 w' b M R' rows os :=
  ⟨Tu.to_below h.bel hT h.ownb h.ownM h.bel.size, hR, ok, nil, h.ownb, h.ownM, fun x hx => ⟨row_turn (h.rows x hx).1 (h.rows x hx).2 h.at_ hT, (h.rows x hx).2⟩,
   fun x hx => ⟨(hT.block x.1 (heap_lt (h.os x hx).1) (h.os x hx).2.2 (fun e => by have := h.at_.noC (e ▸ (h.os x hx).1); rw [(h.os x hx).2.1] at this; cases this)).trans (h.os x hx).1, (h.os x hx).2⟩⟩
theorem Lw.below (h : Lw w0 w b M R rows os) (hb : Below w.heap.size w w') : Lw w0 w' b M R rows os := h.turn (h.at_.below hb) h.ok h.nil (Tu.below hb)
theorem Lw.addOb (h : Lw w0 w b M R rows os) {k : Nat} {o : Obj} (hk : w.heap[k]? = some o) (hc : isC o = true) (hb : k ≠ b) : Lw w0 w b M R rows ((k, o) :: os) :=
  ⟨h.bel, h.at_, h.ok, h.nil, h.ownb, h.ownM, h.rows, fun x hx => (List.mem_cons.1 hx).elim (fun e => e ▸ ⟨hk, hc, hb⟩) (h.os x)⟩
theorem Lw.sub {rows' : List Rw} {os' : List (Nat × Obj)} (h : Lw w0 w b M R rows os) (hr : ∀ x ∈ rows', x ∈ rows) (ho : ∀ x ∈ os', x ∈ os) : Lw w0 w b M R rows' os' :=
  ⟨h.bel, h.at_, h.ok, h.nil, h.ownb, h.ownM, fun x hx => h.rows x (hr x hx), fun x hx => h.os x (ho x hx)⟩
theorem Lw.row (h : Lw w0 w b M R rows os) {v : Value} {l : List Pk} (hx : pkR v l ∈ rows) (hn : v = .slice none 0 0 ↔ l = []) : PkRow w0.heap.size w v l := ⟨(h.rows _ hx).1, hn⟩
theorem Lw.at (h : Lw w0 w b M R rows os) {k : Nat} {o : Obj} (hx : (k, o) ∈ os) : w.heap[k]? = some o := (h.os _ hx).1
/-- the packets left, and those lost, behind an ACK frame -/
def Rc.acked (R : Rc) (n : Nat) (F T : Nat → Int) (now d : Int) : Rc := (R.ack n F T).cut (exF (R.ack n F T).lg now d)
end Go.Proofs.YtpfkeohaaeiaaaaGreatDoor.frm
/- Law 13: sane. -/
namespace Go.Proofs.YtpfkeohaaeiaaaaGreatDoor.frm
open Go.RowKit Go.Maps
set_option maxRecDepth 100000
def sp (i : Int) (e : Bool) : Pk := ⟨i, 0, 10, e, .slice none 0 0⟩
def s5 : Rc := ⟨[sp 0 true, sp 1 true, sp 2 true, sp 3 true, sp 4 false], 5, -1⟩
def s6 : Rc := ⟨[sp 2 true, sp 3 true], 5, 4⟩
def s7 : Rc := ⟨[], 5, 4⟩
theorem e5 : (((((Rc.mk [] 0 (-1)).add (sp 0 true)).add (sp 1 true)).add (sp 2 true)).add (sp 3 true)).add (sp 4 false) = s5 := by kernel_rfl
theorem e6 : s5.acked 1 (fun _ => 4) (fun _ => 5) 5 10 = s6 := by kernel_rfl
end Go.Proofs.YtpfkeohaaeiaaaaGreatDoor.frm
/- Law 13: RangesFrom. -/
namespace Go.Proofs.YtpfkeohaaeiaaaaGreatDoor.frm
open Go.RowKit
set_option maxRecDepth 100000
def fF (l : List (Int × Int)) (j : Nat) : Int := (l.getD j (0, 0)).1
def fT (l : List (Int × Int)) (j : Nat) : Int := (l.getD j (0, 0)).2
theorem fF_old (l : List (Int × Int)) (x : Int × Int) (j : Nat) (h : j < l.length) : fF (l ++ [x]) j = fF l j := by unfold fF; simp [List.getD, List.getElem?_append_left h]
theorem fT_old (l : List (Int × Int)) (x : Int × Int) (j : Nat) (h : j < l.length) : fT (l ++ [x]) j = fT l j := by unfold fT; simp [List.getD, List.getElem?_append_left h]
theorem fF_new (l : List (Int × Int)) (x : Int × Int) : fF (l ++ [x]) l.length = x.1 := by unfold fF; simp [List.getD]
theorem fT_new (l : List (Int × Int)) (x : Int × Int) : fT (l ++ [x]) l.length = x.2 := by unfold fT; simp [List.getD]
def RgIn (l : List (Int × Int)) : Prop := ∀ k, k < l.length → 0 ≤ fF l k ∧ fF l k < fT l k ∧ fT l k ≤ 281474976710656 ∧ fT l k < prv (fF l) k
theorem RgIn.app {l : List (Int × Int)} (h : RgIn l) (x y : Int) (h0 : 0 ≤ x) (h1 : x < y) (h2 : y ≤ 281474976710656) (h3 : y < prv (fF l) l.length) : RgIn (l ++ [(x, y)]) := by
  intro k hk
  rw [List.length_append, List.length_singleton] at hk
  have hp : ∀ k, k ≤ l.length → prv (fF (l ++ [(x, y)])) k = prv (fF l) k := fun k hk => by
    cases k with
    | zero => rfl
    | succ m => exact fF_old _ _ _ (by omega)
  rcases Nat.lt_or_ge k l.length with hlt | hge
  · rw [fF_old _ _ _ hlt, fT_old _ _ _ hlt, hp _ (by omega)]
    exact h k hlt
  · obtain rfl : k = l.length := by omega
    rw [fF_new, fT_new, hp _ (Nat.le_refl _)]
    exact ⟨h0, h1, h2, h3⟩
/-- the cells of a row of spans -/
def scs (l : List (Int × Int)) : List Value := l.flatMap fun p => [.int .i64 p.1, .int .i64 p.2]
theorem scs_at (l : List (Int × Int)) (k : Nat) (hk : k < l.length) : (scs l)[k * 2]? = some (.int .i64 (fF l k)) ∧ (scs l)[k * 2 + 1]? = some (.int .i64 (fT l k)) := by
  induction l generalizing k with
  | nil => simp at hk
  | cons p l ih =>
    cases k with
    | zero => simp [scs, fF, fT]
    | succ k =>
      have := ih k (by simpa using hk)
      have e : (k + 1) * 2 = k * 2 + 1 + 1 := by omega
      simp only [scs, List.flatMap_cons, e, List.cons_append, List.nil_append, List.getElem?_cons_succ, fF, fT, List.getD_cons_succ] at this ⊢
      exact this
/-- the slice v holds n spans of whatever ints -/
def SpArg (w : World) (v : Value) (n : Nat) (F T : Nat → Int) : Prop := ∃ a cap, v = .slice a n cap ∧ n ≤ cap ∧ (n = 0 ∨ ∃ g o, a = some ⟨g, o, none⟩ ∧ cap ≤ maxLen ∧
  ∀ k, k < n → w.cell? ⟨g, o + k * 2, none⟩ = some (.int .i64 (F k)) ∧ w.cell? ⟨g, o + k * 2 + 1, none⟩ = some (.int .i64 (T k)) ∧ (Lit.int .i64 (F k)).wf = true ∧ (Lit.int .i64 (T k)).wf = true)
theorem SpArg.below {w w' : World} {v : Value} {n : Nat} {F T : Nat → Int} (h : SpArg w v n F T) (hb : Below w.heap.size w w') : SpArg w' v n F T := by
  obtain ⟨a, cap, h1, h2, h3⟩ := h
  refine ⟨a, cap, h1, h2, h3.imp id ?_⟩
  rintro ⟨g, o, h4, h5, h6⟩
  exact ⟨g, o, h4, h5, fun k hk => ⟨(hb.cell (World.block_lt_of_cell? _ _ (h6 k hk).1)).trans (h6 k hk).1, (hb.cell (World.block_lt_of_cell? _ _ (h6 k hk).2.1)).trans (h6 k hk).2.1, (h6 k hk).2.2⟩⟩
theorem spans_of_row {B : Nat} {w : World} {v : Value} {l : List (Int × Int)} (h : w.ownsRow B 103 2 v l.length (scs l)) (h0 : 0 < l.length) : ∃ g cap cur, v = .slice (some ⟨g, 0, none⟩) l.length cap ∧ B ≤ g ∧ SpansAt w v l.length (fF l) (fT l) ∧ w.heap[g]? = some (.cells cur 103 (0, 0)) := by
  rcases h.2 with ⟨_, hz⟩ | ⟨g, cap, cur, rfl, hbase, hg, r1, r2, r3, r4⟩
  · omega
  · refine ⟨g, cap, cur, rfl, hbase, ⟨g, 0, cap, rfl, r1, r2, fun k hk => ?_⟩, hg⟩
    have h1 := h.cells (g := g) rfl (k * 2) _ (scs_at l k hk).1
    have h2 := h.cells (g := g) rfl (k * 2 + 1) _ (scs_at l k hk).2
    rw [add_plain] at h1 h2
    exact ⟨h1, by rw [show 0 + k * 2 + 1 = 0 + (k * 2 + 1) by omega]; exact h2⟩
end Go.Proofs.YtpfkeohaaeiaaaaGreatDoor.frm
/- Law 13: the reference's Same at packets without frames. -/
namespace Go.Proofs.YtpfkeohaaeiaaaaGreatDoor.frm
open Go.RowKit
set_option maxRecDepth 100000
end Go.Proofs.YtpfkeohaaeiaaaaGreatDoor.frm
/- Law 13: numbers of packets sent; frames of the call's own. -/
namespace Go.Proofs.YtpfkeohaaeiaaaaGreatDoor.frm
open Go.RowKit
set_option maxRecDepth 100000
def spR (v : Value) (l : List (Int × Int)) : Rw := ⟨103, 2, v, l.length, scs l⟩
variable {w0 w : World} {b M : Nat} {R : Rc} {rows : List Rw} {os : List (Nat × Obj)}
/-- the spans of a frame of the call's own, for Ack -/
theorem Lw.spans (h : Lw w0 w b M R rows os) {v : Value} {l : List (Int × Int)} (hx : spR v l ∈ rows) (h0 : 0 < l.length) :
    SpansAt w v l.length (fF l) (fT l) ∧ (∀ g o c, v = .slice (some ⟨g, o, none⟩) l.length c → g ≠ b) ∧ ∃ g c, v = .slice (some ⟨g, 0, none⟩) l.length c := by
  obtain ⟨g, cap, cur, rfl, _, q2, q3⟩ := spans_of_row (h.rows _ hx).1 h0
  refine ⟨q2, fun g' o c e => ?_, _, _, rfl⟩
  cases e
  intro e
  subst e
  have := h.at_.1
  rw [q3] at this
  cases this
theorem Lw.alloc (h : Lw w0 w b M R rows os) (o : Obj) (hc : isC o = true) : Lw w0 (w.alloc o) b M R rows ((w.heap.size, o) :: os) :=
  (h.below ((Below.refl _ w).alloc (Nat.le_refl _) o)).addOb (heap_alloc_new w o) hc (fun e => by have := heap_lt h.at_.1; omega)
end Go.Proofs.YtpfkeohaaeiaaaaGreatDoor.frm
/- Law 13: CallParams as plain data; ackFrom. -/
namespace Go.Proofs.YtpfkeohaaeiaaaaGreatDoor.frm
open Go.RowKit
set_option maxRecDepth 100000
/-- a CallParams: sv, fsv: what its slices of spans hold -/
structure Cp where
  kind : Int
  ticks : Int
  size : Int
  sv : Value
  last : Int
  ft : Int
  fa : Int
  fb : Int
  fc : Int
  fs : ByteArray
  fin : Bool
  fsv : Value
  p : Pk
def Cp.cells (c : Cp) : Array Value := #[.int .i64 c.kind, .int .i64 c.ticks, .int .i64 c.size, c.sv, .int .i64 c.last, .int .i64 c.ft, .int .i64 c.fa, .int .i64 c.fb, .int .i64 c.fc, .string c.fs, .bool c.fin, c.fsv,
  .int .i64 c.p.pn, .int .i64 c.p.time, .int .i64 c.p.size, .bool c.p.el, c.p.fv]
variable {w0 w : World} {b M : Nat} {R : Rc} {rows : List Rw} {os : List (Nat × Obj)}
theorem grown_setRow (w : World) (k : Nat) (cs : Array Value) : w.grownBy (w.setRow k cs) (some k) :=
  ⟨rfl, rfl, rfl, by simp, fun j _ hr => setRow_other w k j cs (fun e => hr (by rw [e]))⟩
end Go.Proofs.YtpfkeohaaeiaaaaGreatDoor.frm
/- Law 13: plain laws on what is left behind ACK frames. -/
namespace Go.Proofs.YtpfkeohaaeiaaaaGreatDoor.frm
open Go.RowKit
set_option maxRecDepth 100000
end Go.Proofs.YtpfkeohaaeiaaaaGreatDoor.frm
/- Law 13: a Tracker as plain data; the iterator over its intervals. -/
namespace Go.Proofs.YtpfkeohaaeiaaaaGreatDoor.frm
open Go.RowKit Go.Sort Go.Shelf
set_option maxRecDepth 100000
attribute [local go_sem] Oper.semAt_some
/-- a Tracker lies at block t: 17 intervals, their number, delay, floor, largest, when, count, due -/
def TkAt (w : World) (t : Nat) (zs : List Int) : Prop := zs.length = 41 ∧ w.heap[t]? = some (.cells (zs.map (Value.int .i64)).toArray 108 (0, 0))
theorem TkAt.cell {w : World} {t : Nat} {zs : List Int} (h : TkAt w t zs) (i : Nat) (hi : i < 41) : w.cell? ⟨t, i, none⟩ = some (.int .i64 (zs[i]?.getD 0)) := by
  obtain ⟨h1, h2⟩ := h
  refine at_whole h2 i ?_
  rw [List.getElem?_toArray, List.getElem?_map, List.getElem?_eq_getElem (by omega)]
  rfl
theorem TkAt.frozen {w : World} {t : Nat} {zs : List Int} (h : TkAt w t zs) (i : Nat) : w.frozen? ⟨t, i, none⟩ = false := frozen_of_row w t i _ 108 h.2
theorem TkAt.block {w w' : World} {t : Nat} {zs : List Int} (h : TkAt w t zs) (hb : w'.heap[t]? = w.heap[t]?) : TkAt w' t zs := ⟨h.1, hb.trans h.2⟩
theorem TkAt.lt {w : World} {t : Nat} {zs : List Int} (h : TkAt w t zs) : t < w.heap.size := heap_lt h.2
theorem TkAt.set {w : World} {t : Nat} {zs : List Int} (h : TkAt w t zs) (i : Nat) (x : Int) : TkAt (w.setCell ⟨t, i, none⟩ (.int .i64 x)) t (zs.set i x) := by
  refine ⟨by rw [List.length_set]; exact h.1, ?_⟩
  rw [heap_setCell_same w t i _ 108 _ h.2, List.map_set]
  simp
/-- the interval at index k, with its index -/
def ivAt (zs : List Int) (k : Nat) : Nat × Int × Int := (k, zs[k * 2]?.getD 0, zs[k * 2 + 1]?.getD 0)
def encIv (x : Nat × Int × Int) : Array Value := #[.int .i64 x.1, .agg #[.int .i64 x.2.1, .int .i64 x.2.2]]
def ivs (zs : List Int) (n : Nat) : List (Nat × Int × Int) := (List.range n).map (ivAt zs)
theorem ivs_succ (zs : List Int) (n : Nat) : ivs zs (n + 1) = ivs zs n ++ [ivAt zs n] := by simp [ivs, List.range_succ]
theorem ivs_pre (zs : List Int) {k n : Nat} (h : k ≤ n) : ivs zs k <+: ivs zs n := by
  obtain ⟨d, rfl⟩ := Nat.exists_eq_add_of_le h
  refine ⟨(List.range d).map (fun i => ivAt zs (k + i)), ?_⟩
  simp [ivs, List.range_add]
/-- the iterator's own box and the Tracker stay -/
def KpT (B t : Nat) (W W' : World) : Prop := W'.heap[B]? = W.heap[B]? ∧ W'.heap[t]? = W.heap[t]?
theorem KpT.refl (B t : Nat) (W : World) : KpT B t W W := ⟨rfl, rfl⟩
theorem KpT.trans {B t : Nat} {a b c : World} (h : KpT B t a b) (k : KpT B t b c) : KpT B t a c := ⟨k.1.trans h.1, k.2.trans h.2⟩
theorem KpT.below {B t n : Nat} {a b : World} (h : Below n a b) (hB : B < n) (ht : t < n) : KpT B t a b := ⟨h.block B hB, h.block t ht⟩
theorem kpT_b {B t m : Nat} (hB : B < m) (ht : t < m) (W : World) (l : Nat) (o o' : Obj) (hl : m ≤ l) (h : W.heap[l]? = some o) (_hc : o.isCells = false) (_hw : o.isWalk = false) : KpT B t W (W.putObj l o') :=
  ⟨(grownBy_putObj' W l o').block B (by have := (Array.getElem?_eq_some_iff.1 h).1; omega) (fun e => by cases e; omega), (grownBy_putObj' W l o').block t (by have := (Array.getElem?_eq_some_iff.1 h).1; omega) (fun e => by cases e; omega)⟩
set_option maxRecDepth 100000 in
set_option maxHeartbeats 4000000 in
theorem iv_in (n : Nat) (hn : 2 ≤ n) (ly B t m : Nat) (zs : List Int) (hm : m ≤ 17) (J Jx : List (Nat × Int × Int) → World → Prop)
    (hY : ∀ pre x W, x ∈ ivs zs m → J pre W → pre.length < m → YieldAt Fence.wide (n - 1) Tryz.prog ly (encIv x) W fun e W' =>
      (e = .returned (.bool true) ∧ J (pre ++ [x]) W' ∧ KpT B t W W') ∨ (e = .returned (.bool false) ∧ Jx (pre ++ [x]) W'))
    (W : World) (hB : W.cell? ⟨B, 0, none⟩ = some (.pointer (some ⟨t, 0, none⟩))) (hT : TkAt W t zs) (hz : zs[34]?.getD (0:Int) = (m:Int)) (h0 : J [] W) :
    CallsIn Fence.wide n Tryz.prog 116 #[.func (.yield ly) #[] #[], .pointer (some ⟨B, 0, none⟩)] W fun e W' => (∃ v, e = .returned v) ∧
      ((∃ ys, ys = ivs zs m ∧ J ys W') ∨ (∃ pre, (∃ k, k < m ∧ pre = ivs zs (k + 1)) ∧ Jx pre W')) := by
  have c34 := hT.cell 34 (by decide)
  rw [hz] at c34
  have HT := Lib.hid hT
  have HJ := Lib.hid h0
  clear hT hz h0
  have h1n : 1 ≤ n := by omega
  refine callsIn_of_wp Tryz.func116 rfl trivial ?_ rfl
  simp only [Tryz.ntmps116, List.size_toArray, List.length_cons, List.length_nil, Nat.reduceAdd, Nat.reduceSub, Array.replicate_succ, Array.replicate_zero, List.push_toArray, List.append_toArray, List.nil_append, List.cons_append]
  gi_wp2
  gi_loopw [8] (fun i wr => ∃ k : Nat, k ≤ m ∧ i = .int .i64 k ∧ J (ivs zs k) wr ∧ KpT B t W wr) (fun i _ => m - (intOf i).toNat)
  case atStart => exact ⟨0, by omega, rfl, HJ.out, KpT.refl _ _ _⟩
  case round =>
    obtain ⟨k, hk, rfl, hJ, hb⟩ := hrel
    have cB : wr.cell? ⟨B, 0, none⟩ = some (.pointer (some ⟨t, 0, none⟩)) := (World.cell?_of_block (a := ⟨B, 0, none⟩) hb.1).trans hB
    have HB := Lib.hid hb
    have Tk : TkAt wr t zs := HT.out.block hb.2
    clear hb
    by_cases hlt : k < m
    · have d0 := Tk.cell (k * 2) (by omega)
      have d1 := Tk.cell (k * 2 + 1) (by omega)
      have hts := Lib.hid (ivs_succ zs k)
      obtain ⟨fn, tmps, assign, body, hy, hR⟩ := hY _ (ivAt zs k) wr (List.mem_map.2 ⟨k, List.mem_range.2 hlt, rfl⟩) hJ (by simp [ivs]; omega)
      simp only [encIv, ivAt] at hy
      have HR := Lib.hid hR
      clear hR hJ Tk
      generalize zs[k * 2]?.getD 0 = f0 at *
      generalize zs[k * 2 + 1]?.getD 0 = t0 at *
      have i0 : (k : Int) < (m : Int) := by omega
      gi_wp2
      refine HR.out.mono ?_
      rintro e W3 (⟨rfl, hJ3, hk3⟩ | ⟨rfl, hJx3⟩)
      · have K3 := Lib.hid (And.intro hJ3 hk3)
        clear hk3 hJ3 hy cB d0 d1
        gi_wp2
        go_roundw
        case rel => exact ⟨k + 1, by omega, by go_num, by rw [hts.out]; exact K3.out.1, HB.out.trans K3.out.2⟩
        case measure => simp [intOf]; omega
      · have K3 := Lib.hid hJx3
        clear hJx3 hy cB d0 d1
        gi_wp2
        refine bodyPost_ret (results_none rfl _ _ _) rfl ?_
        exact ⟨⟨_, rfl⟩, .inr ⟨_, ⟨k, hlt, hts.out.symm ▸ rfl⟩, K3.out⟩⟩
    · obtain rfl : k = m := by omega
      clear hlt Tk
      gi_wp2
      go_end0
      exact ⟨⟨_, rfl⟩, .inl ⟨_, rfl, hJ⟩⟩
theorem iv_stops (n : Nat) (hn : 2 ≤ n) (B t m : Nat) (zs : List Int) (hm : m ≤ 17) (W : World) (hBl : B < W.heap.size) (hB : W.cell? ⟨B, 0, none⟩ = some (.pointer (some ⟨t, 0, none⟩))) (hT : TkAt W t zs) (hz : zs[34]?.getD (0:Int) = (m:Int)) :
    SeqStopsK Fence.wide n Tryz.prog 116 #[.pointer (some ⟨B, 0, none⟩)] encIv (KpT B t) (fun ys => ys = ivs zs m) (fun pre => ∃ k, k < m ∧ pre = ivs zs (k + 1)) m W := fun ly J Jx W2 hW _ _ hY h0 => by
  refine (iv_in n hn ly B t m zs hm J Jx (fun pre x W _ h hl => hY pre x W h hl) W2 ((hW.cell (p := ⟨B, 0, none⟩) hBl).trans hB) (hT.block (hW.block t hT.lt)) hz h0).mono ?_
  rintro e W' ⟨h1, h2⟩
  exact ⟨h1, h2⟩
abbrev InIv (zs : List Int) (m : Nat) := { x : Nat × Int × Int // x ∈ ivs zs m }
theorem iv_stopsS (n : Nat) (hn : 2 ≤ n) (B t m : Nat) (zs : List Int) (hm : m ≤ 17) (W : World) (hBl : B < W.heap.size) (hB : W.cell? ⟨B, 0, none⟩ = some (.pointer (some ⟨t, 0, none⟩))) (hT : TkAt W t zs) (hz : zs[34]?.getD (0:Int) = (m:Int)) :
    SeqStopsK Fence.wide n Tryz.prog 116 #[.pointer (some ⟨B, 0, none⟩)] (fun x : InIv zs m => encIv x.1) (KpT B t) (fun ys => ys.map (·.1) = ivs zs m) (fun _ => True) m W := fun ly J Jx W2 hW _ _ hY h0 => by
  refine (iv_in n hn ly B t m zs hm (fun pre W => ∃ pre' : List (InIv zs m), pre'.map (·.1) = pre ∧ J pre' W) (fun pre W => ∃ pre' : List (InIv zs m), pre'.map (·.1) = pre ∧ Jx pre' W) ?_ W2 ((hW.cell (p := ⟨B, 0, none⟩) hBl).trans hB) (hT.block (hW.block t hT.lt)) hz ⟨[], rfl, h0⟩).mono ?_
  · rintro pre x W hx ⟨pre', rfl, hj⟩ hlen
    refine (hY pre' ⟨x, hx⟩ W hj (by simpa using hlen)).mono ?_
    rintro e W' (⟨h1, h2, h3⟩ | ⟨h1, h2⟩)
    · exact .inl ⟨h1, ⟨pre' ++ [⟨x, hx⟩], by simp, h2⟩, h3⟩
    · exact .inr ⟨h1, pre' ++ [⟨x, hx⟩], by simp, h2⟩
  · rintro e W' ⟨h1, h2⟩
    refine ⟨h1, ?_⟩
    rcases h2 with ⟨ys, rfl, ys', e, hj⟩ | ⟨pre, _, pre', _, hj⟩
    · exact .inl ⟨ys', e, hj⟩
    · exact .inr ⟨pre', trivial, hj⟩
end Go.Proofs.YtpfkeohaaeiaaaaGreatDoor.frm
/- A scope through which the run goes without a goto, inside a fence (the library's wp_scope_straight has no fenced twin). -/
namespace Go.Proofs.YtpfkeohaaeiaaaaGreatDoor.frm
theorem stepR_scope {P : Program} {b : Frame} {a : Act} {k : List Item} {cs : List Frame} {w : World} {c : Code} : step P (lone (b.atR a (.code (.scope c) :: k)) cs w) = .next (lone (b.atR a (.code c :: .inScope c :: k)) cs w) :=
  step_lone_go (by simp [stepG, stepG.exec, Frame.atR])
theorem stepR_inScope {P : Program} {b : Frame} {a : Act} {k : List Item} {cs : List Frame} {w : World} {c : Code} : step P (lone (b.atR a (.inScope c :: k)) cs w) = .next (lone (b.atR a k) cs w) :=
  step_lone_go (by simp [stepG, stepG.exec, Frame.atR])
theorem wpIn_scope_straight {F : Fence} {n : Nat} {P : Program} {Q : Exit → Act → World → Prop} {a : Act} {w : World} {c : Code} (h : c.wpIn F n P (Exit.noGoto Q) a w) : (Code.scope c).wpIn F n P Q a w := by
  intro b k cs hro hb hr
  have h0 : (lone (b.atR a (.code (.scope c) :: k)) cs w).fenced P F := fenced_calm hb hr rfl
  obtain ⟨e, a₁, w₁, hq, harr⟩ := h b (.inScope c :: k) cs hro hb hr
  cases e with
  | normal => exact ⟨.normal, a₁, w₁, hq, .head h0 stepR_scope (StepsIn.trans harr (.one (fenced_calm hb hr rfl) stepR_inScope))⟩
  | exit id =>
    have hx : exitTo id (.inScope c :: k) = exitTo id k := by simp [exitTo]
    exact ⟨.exit id, a₁, w₁, hq, fun k' hk => .head h0 stepR_scope (harr.1 k' (by rw [hx]; exact hk)),
      fun hr' hk => let ⟨k₁, h1, h2⟩ := harr.2 hr' (by rw [hx]; exact hk); ⟨k₁, h1, .head h0 stepR_scope h2⟩⟩
  | goto l => exact hq.elim
  | ret => exact ⟨_, a₁, w₁, hq, .of_steps (.one h0 stepR_scope) harr⟩
  | panic ch => exact ⟨_, a₁, w₁, hq, .of_steps (.one h0 stepR_scope) harr⟩
  | outgrown => exact ⟨_, a₁, w₁, hq, .of_steps (.one h0 stepR_scope) harr⟩
end Go.Proofs.YtpfkeohaaeiaaaaGreatDoor.frm
/- Law 13: has and place. -/
namespace Go.Proofs.YtpfkeohaaeiaaaaGreatDoor.frm
open Go.RowKit Go.Sort Go.Shelf
set_option maxRecDepth 100000
attribute [local go_sem] Oper.semAt_some
set_option maxRecDepth 100000 in
theorem all62 (p : Option Addr) (w : World) : Calls Tryz.prog 84 #[.pointer p] w fun e w' => e = .returned (.func (.func 116) #[] #[.pointer (some ⟨w.heap.size, 0, none⟩)]) ∧ w' = w.alloc (.cells #[.pointer p] 176) := by
  go_enter Tryz.func84, Tryz.ntmps84
  go_wp2
  go_ret
  exact ⟨rfl, rfl⟩
def conB (pn : Int) (x : Nat × Int × Int) : Bool := decide (x.2.1 ≤ pn) && decide (pn < x.2.2)
def hasB (pn : Int) (l : List (Nat × Int × Int)) : Bool := l.any (conB pn)
theorem hasB_snoc (pn : Int) (l : List (Nat × Int × Int)) (x : Nat × Int × Int) : hasB pn (l ++ [x]) = (hasB pn l || conB pn x) := by simp [hasB]
theorem hasB_pre {pn : Int} {l l' : List (Nat × Int × Int)} (h : l <+: l') (hb : hasB pn l = true) : hasB pn l' = true := by
  obtain ⟨t, rfl⟩ := h
  unfold hasB at *
  rw [List.any_append, hb]; rfl
theorem boxes3 (w : World) (o1 o2 o3 : Obj) : ((w.alloc o1).alloc o2).alloc o3 = ((w.alloc o1).alloc o2).alloc o3 ∧ (((w.alloc o1).alloc o2).alloc o3).heap[w.heap.size]? = some o1 ∧ (((w.alloc o1).alloc o2).alloc o3).heap[w.heap.size + 1]? = some o2 ∧ (((w.alloc o1).alloc o2).alloc o3).heap[w.heap.size + 2]? = some o3 ∧
    Below w.heap.size w (((w.alloc o1).alloc o2).alloc o3) ∧ (((w.alloc o1).alloc o2).alloc o3).heap.size = w.heap.size + 3 := by
  refine ⟨rfl, ?_, ?_, ?_, ((((Below.refl _ w).alloc (Nat.le_refl _) _).alloc (by simp) _).alloc (by simp; omega) _), by simp⟩
  · rw [Below.heap_alloc _ _ _ (by simp; omega), Below.heap_alloc _ _ _ (by simp)]; exact heap_alloc_new w _
  · rw [Below.heap_alloc _ _ _ (by simp)]; have := heap_alloc_new (w.alloc o1) o2; rwa [World.size_alloc] at this
  · have := heap_alloc_new ((w.alloc o1).alloc o2) o3; rwa [World.size_alloc, World.size_alloc] at this
set_option maxRecDepth 100000 in
set_option maxHeartbeats 4000000 in
theorem has_any (t m : Nat) (zs : List Int) (pn : Int) (w : World) (hT : TkAt w t zs) (hm : m ≤ 17) (hz : zs[34]?.getD (0:Int) = (m:Int)) :
    Calls Tryz.prog 78 #[.pointer (some ⟨t, 0, none⟩), .int .i64 pn] w fun e w' => e = .returned (.bool (hasB pn (ivs zs m))) ∧ Below w.heap.size w w' := by
  have X := Lib.hid (boxes3 w (.cells #[.int .i64 pn] 3) (.cells #[.bool false] 4) (.cells #[.pointer (some ⟨t, 0, none⟩)] 176))
  have HT := Lib.hid (And.intro hT hz)
  clear hT hz
  refine (callsIn_wide (n := 8)).1 ?_
  refine callsIn_of_wp_marks Tryz.func78 rfl trivial ?_ rfl
  simp only [Tryz.ntmps78, List.size_toArray, List.length_cons, List.length_nil, Nat.reduceAdd, Nat.reduceSub, Array.replicate_succ, Array.replicate_zero, List.push_toArray, List.append_toArray, List.nil_append, List.cons_append]
  gi_wp2_with (refine ⟨trivial, (callsIn_wide.2 (all62 _ _)).mono ?_⟩; rintro e w' ⟨rfl, rfl⟩)
  generalize ((w.alloc _).alloc _).alloc _ = W0 at X ⊢
  obtain ⟨_, X1, X2, X3, X4, X5⟩ := X.out
  refine wpIn_rangeFunc_ownH rfl (by decide) (gf := 116) (lb := #[.pointer (some ⟨w.heap.size + 2, 0, none⟩)]) rfl trivial (enters_of Tryz.func116 (by kernel_rfl) rfl)
    (iv_stops 7 (by decide) (w.heap.size + 2) t m zs hm W0 (by omega) (at_whole X3 0 rfl) (HT.out.1.block (X4.block t HT.out.1.lt)) HT.out.2)
    (fun h k => h.trans k) (kpT_b (by omega) (by have := HT.out.1.lt; omega)) (Below.refl _ _) (fun _ => rfl)
    (fun pre W => (W.heap[w.heap.size]? = some (.cells #[.int .i64 pn] 3 (0, 0)) ∧ (W.heap[w.heap.size + 2]? = some (.cells #[.pointer (some ⟨t, 0, none⟩)] 176 (0, 0)) ∧ (W.heap[w.heap.size + 1]? = some (.cells #[.bool false] 4 (0, 0)) ∧ hasB pn pre = false))) ∧ Below w.heap.size w W)
    (fun c pre W => (W.heap[w.heap.size + 1]? = some (.cells #[.bool true] 4 (0, 0)) ∧ (c = .ret ∧ hasB pn pre = true)) ∧ Below w.heap.size w W)
    (OwnFrom.and (OwnFrom.and (heap_own _ _ _ _) (OwnFrom.and (heap_own _ _ _ _) (OwnFrom.and (heap_own _ _ _ _) (fun s _ _ _ hs _ _ => hs)))) (ownFrom_below (Nat.le_refl _) (by omega)))
    (fun c => OwnFrom.and (OwnFrom.and (heap_own _ _ _ _) (fun s _ _ _ hs _ _ => hs)) (ownFrom_below (Nat.le_refl _) (by omega)))
    ⟨⟨X1, X3, X2, rfl⟩, X4⟩
    (fun x a' W => ∃ Bx, W0.heap.size ≤ Bx ∧ W.heap[Bx]? = some (.cells #[.int .i64 x.2.1, .int .i64 x.2.2] 103 (0, 0)) ∧ a' = { tmps := #[.pointer (some ⟨t, 0, none⟩), .int .i64 pn, undef, .pointer (some ⟨w.heap.size, 0, none⟩), .pointer (some ⟨w.heap.size + 1, 0, none⟩), undef, .pointer (some ⟨Bx, 0, none⟩), .pointer (some ⟨t, 0, none⟩), .func (.func 116) #[] #[.pointer (some ⟨w.heap.size + 2, 0, none⟩)], .int .i64 x.1, .agg #[.int .i64 x.2.1, .int .i64 x.2.2], undef, undef, undef, undef, undef, undef, undef, undef, undef, undef], defers := [] })
    (fun x a' s A C row hs hg hr => by
      obtain ⟨Bx, h1, h2, h3⟩ := hs
      exact ⟨Bx, h1, heap_own _ _ _ _ () A C row h2 hg hr, h3⟩)
    ?assign ?body ?done ?stop
  case assign =>
    rintro ly pre ⟨k, f, tt⟩ W K hi hK
    simp only [encIv] at hK ⊢
    have H1 := Lib.hid (And.intro hi hK)
    clear hi hK
    gi_wp2
    obtain ⟨⟨q1, q2, q3, q4⟩, q5⟩ := H1.out.1
    have hs := heap_lt q2
    have ht := HT.out.1.lt
    refine H1.out.2 _ _ ((KeepsOthers.alloc _ _).from _) (KpT.below ((Below.refl _ W).alloc (Nat.le_refl _) _) (by omega) (by omega)) ?_ ⟨W.heap.size, by omega, heap_alloc_new W _, rfl⟩
    exact ⟨⟨(Below.heap_alloc W _ _ (heap_lt q1)).trans q1, (Below.heap_alloc W _ _ (heap_lt q2)).trans q2, (Below.heap_alloc W _ _ (heap_lt q3)).trans q3, q4⟩, q5.trans ((Below.refl _ W).alloc q5.size _)⟩
  case body =>
    rintro ly pre ⟨k, f, tt⟩ a' W hl ⟨r, hr⟩ ⟨⟨q1, q2, q3, q4⟩, q5⟩ ⟨Bx, hBx, hbx, rfl⟩ hlen
    simp only at hbx ⊢
    have l0 := at_whole hbx 0 rfl
    have l1 := at_whole hbx 1 rfl
    have c0 := at_whole q1 0 rfl
    have c1 := at_whole q3 0 rfl
    have z1 := frozen_of_row W (w.heap.size + 1) 0 _ 4 q3
    simp only [List.getElem_toArray, List.getElem_cons_zero, List.getElem_cons_succ] at l0 l1 c0 c1
    have AS := Lib.hid (hasB_snoc pn pre (k, f, tt))
    have G := Lib.hid (And.intro q1 (And.intro q2 (And.intro q3 (And.intro q4 q5))))
    clear q1 q2 q3 q4 q5 hbx
    by_cases h1 : f ≤ pn
    · by_cases h2 : pn < tt
      · have e : Hid (conB pn (k, f, tt) = true) := Lib.hid (by simp [conB, h1, h2])
        gi_wp2
        refine ⟨(KeepsOthers.setCell _ _ _).from _, ⟨⟨?_, rfl, by rw [AS.out, e.out, Bool.or_true]⟩, G.out.2.2.2.2.setCell (p := ⟨w.heap.size + 1, 0, none⟩) (by simp) _⟩⟩
        exact heap_setCell_same W (w.heap.size + 1) 0 _ 4 _ G.out.2.2.1
      · have e : Hid (conB pn (k, f, tt) = false) := Lib.hid (by simp [conB, h2])
        gi_wp2
        exact ⟨(KeepsOthers.refl _).from _, KpT.refl _ _ _, ⟨⟨G.out.1, G.out.2.1, G.out.2.2.1, by rw [AS.out, e.out, G.out.2.2.2.1]; rfl⟩, G.out.2.2.2.2⟩⟩
    · have e : Hid (conB pn (k, f, tt) = false) := Lib.hid (by simp [conB, h1])
      gi_wp2
      exact ⟨(KeepsOthers.refl _).from _, KpT.refl _ _ _, ⟨⟨G.out.1, G.out.2.1, G.out.2.2.1, by rw [AS.out, e.out, G.out.2.2.2.1]; rfl⟩, G.out.2.2.2.2⟩⟩
  case done => 
    rintro D ys W hD rfl ⟨⟨q1, q2, q3, q4⟩, q5⟩ hK
    have H := Lib.hid (And.intro q3 (And.intro q4 (And.intro q5 hK)))
    have c1 := at_whole q3 0 rfl
    have z1 := frozen_of_row W (w.heap.size + 1) 0 _ 4 q3
    simp only [List.getElem_toArray, List.getElem_cons_zero] at c1
    clear q1 q2 q3 q4 q5 hK
    gi_wp2
    refine ⟨by simp, .inl ⟨_, _, rfl, run_takeDeferred ((KeepsOthers.setCell _ _ _).same D _ H.out.2.2.2 rfl), ?_⟩⟩
    have hD2 : w.heap.size + 1 ≠ D := by omega
    have hc := at_whole ((World.putObj_heap_other (w := W.setCell ⟨w.heap.size + 1, 0, none⟩ (.bool false)) (o := .deferred none) hD2).trans (heap_setCell_same W (w.heap.size + 1) 0 _ 4 (.bool false) H.out.1)) 0 rfl
    refine ⟨.bool false, by simp [results, Tryz.f78, go_sem, hc], ?_, ?_⟩
    · rw [H.out.2.1]
    · have hb := H.out.2.2.1.setCell (p := ⟨w.heap.size + 1, 0, none⟩) (by simp) (.bool false)
      exact hb.trans (belowK_b (w := w) (Nat.le_refl _) _ D _ _ (by omega) ((KeepsOthers.setCell W ⟨w.heap.size + 1, 0, none⟩ (.bool false)).same D _ H.out.2.2.2 rfl) rfl rfl)
  case stop =>
    rintro D c pre W hD ⟨k, hk, rfl⟩ ⟨⟨q1, rfl, q2⟩, q3⟩ hK
    have H := Lib.hid (And.intro q1 (And.intro q2 (And.intro q3 hK)))
    have c1 := at_whole q1 0 rfl
    simp only [List.getElem_toArray, List.getElem_cons_zero] at c1
    clear q1 q2 q3 hK
    gi_wp2
    refine ⟨by simp, .inl ⟨_, _, rfl, run_takeDeferred H.out.2.2.2, ?_⟩⟩
    have hD2 : w.heap.size + 1 ≠ D := by omega
    have hc := at_whole ((World.putObj_heap_other (w := W) (o := .deferred none) hD2).trans H.out.1) 0 rfl
    refine ⟨.bool true, by simp [results, Tryz.f78, go_sem, hc], ?_, ?_⟩
    · rw [hasB_pre (ivs_pre zs (show k + 1 ≤ m by omega)) H.out.2.1]
    · exact H.out.2.2.1.trans (belowK_b (w := w) (Nat.le_refl _) _ D _ _ (by omega) H.out.2.2.2 rfl rfl)
end Go.Proofs.YtpfkeohaaeiaaaaGreatDoor.frm
/- Law 13: place. -/
namespace Go.Proofs.YtpfkeohaaeiaaaaGreatDoor.frm
open Go.RowKit Go.Sort Go.Shelf
set_option maxRecDepth 100000
attribute [local go_sem] Oper.semAt_some
def lowB (pn : Int) (l : List (Nat × Int × Int)) : Bool := l.all (fun x => decide (x.2.2 < pn))
theorem lowB_snoc {pn : Int} {l : List (Nat × Int × Int)} {x : Nat × Int × Int} (h : lowB pn l = true) (hx : x.2.2 < pn) : lowB pn (l ++ [x]) = true := by
  unfold lowB at *
  rw [List.all_append, h]
  simp [hx]
theorem lowB_at {pn : Int} {zs : List Int} {n : Nat} (h : lowB pn (ivs zs n) = true) (j : Nat) (hj : j < n) : zs[j * 2 + 1]?.getD 0 < pn := by
  have := List.all_eq_true.1 h (ivAt zs j) (List.mem_map.2 ⟨j, List.mem_range.2 hj, rfl⟩)
  exact of_decide_eq_true this
/-- where a number is put -/
def PlacePost (zs : List Int) (m : Nat) (pn : Int) (w : World) (e : Ending) (w' : World) : Prop :=
  ∃ k : Nat, k ≤ m ∧ e = .returned (.int .i64 k) ∧ lowB pn (ivs zs k) = true ∧ (k < m → pn ≤ zs[k * 2 + 1]?.getD 0) ∧ Below w.heap.size w w'
set_option maxRecDepth 100000 in
set_option maxHeartbeats 4000000 in
theorem place_any (t m : Nat) (zs : List Int) (pn : Int) (w : World) (hT : TkAt w t zs) (hm : m ≤ 17) (hz : zs[34]?.getD (0:Int) = (m:Int)) :
    Calls Tryz.prog 115 #[.pointer (some ⟨t, 0, none⟩), .int .i64 pn] w (PlacePost zs m pn w) := by
  have X := Lib.hid (boxes3 w (.cells #[.int .i64 pn] 3) (.cells #[.int .i64 m] 3) (.cells #[.pointer (some ⟨t, 0, none⟩)] 176))
  have y34 := hT.cell 34 (by decide)
  rw [hz] at y34
  have y35 := cell_alloc_l (.cells #[.int .i64 pn] 3) y34
  have HT := Lib.hid (And.intro hT hz)
  clear hT hz
  refine (callsIn_wide (n := 8)).1 ?_
  refine callsIn_of_wp_marks Tryz.func115 rfl trivial ?_ rfl
  simp only [Tryz.ntmps115, List.size_toArray, List.length_cons, List.length_nil, Nat.reduceAdd, Nat.reduceSub, Array.replicate_succ, Array.replicate_zero, List.push_toArray, List.append_toArray, List.nil_append, List.cons_append]
  gi_wp2
  refine wpIn_scope_straight ?_
  gi_wp2
  refine wpIn_label ?_
  rw [show ∀ (K : Act → World → Prop) Q a w, Exit.then K Q .normal a w = K a w from fun _ _ _ _ => rfl]
  gi_wp2_with (refine ⟨trivial, (callsIn_wide.2 (all62 _ _)).mono ?_⟩; rintro e w' ⟨rfl, rfl⟩)
  generalize ((w.alloc _).alloc _).alloc _ = W0 at X ⊢
  obtain ⟨_, X1, X2, X3, X4, X5⟩ := X.out
  clear y34 y35
  refine wpIn_rangeFunc_ownH rfl (by decide) (gf := 116) (lb := #[.pointer (some ⟨w.heap.size + 2, 0, none⟩)]) rfl trivial (enters_of Tryz.func116 (by kernel_rfl) rfl)
    (iv_stops 7 (by decide) (w.heap.size + 2) t m zs hm W0 (by omega) (at_whole X3 0 rfl) (HT.out.1.block (X4.block t HT.out.1.lt)) HT.out.2)
    (fun h k => h.trans k) (kpT_b (by omega) (by have := HT.out.1.lt; omega)) (Below.refl _ _) (fun _ => rfl)
    (fun pre W => (W.heap[w.heap.size]? = some (.cells #[.int .i64 pn] 3 (0, 0)) ∧ (W.heap[w.heap.size + 2]? = some (.cells #[.pointer (some ⟨t, 0, none⟩)] 176 (0, 0)) ∧ (W.heap[w.heap.size + 1]? = some (.cells #[.int .i64 m] 3 (0, 0)) ∧ lowB pn pre = true))) ∧ Below w.heap.size w W)
    (fun c pre W => ((∃ pre' x, W.heap[w.heap.size + 1]? = some (.cells #[.int .i64 (x : Nat × Int × Int).1] 3 (0, 0)) ∧ pre = pre' ++ [x] ∧ lowB pn pre' = true ∧ pn ≤ x.2.2) ∧ c = .exit 0) ∧ Below w.heap.size w W)
    (OwnFrom.and (OwnFrom.and (heap_own _ _ _ _) (OwnFrom.and (heap_own _ _ _ _) (OwnFrom.and (heap_own _ _ _ _) (fun s _ _ _ hs _ _ => hs)))) (ownFrom_below (Nat.le_refl _) (by omega)))
    (fun c => OwnFrom.and (OwnFrom.and (fun s A C row hs hg hr => by obtain ⟨p', x, h1, h2⟩ := hs; exact ⟨p', x, heap_own _ _ _ _ () A C row h1 hg hr, h2⟩) (fun s _ _ _ hs _ _ => hs)) (ownFrom_below (Nat.le_refl _) (by omega)))
    ⟨⟨X1, X3, X2, rfl⟩, X4⟩
    (fun x a' W => ∃ Bx, W0.heap.size ≤ Bx ∧ W.heap[Bx]? = some (.cells #[.int .i64 x.2.1, .int .i64 x.2.2] 103 (0, 0)) ∧ a' = { tmps := #[.pointer (some ⟨t, 0, none⟩), .int .i64 pn, undef, .pointer (some ⟨w.heap.size, 0, none⟩), .int .i64 0, .pointer (some ⟨w.heap.size + 1, 0, none⟩), .int .i64 x.1, .pointer (some ⟨Bx, 0, none⟩), .pointer (some ⟨t, 0, none⟩), .pointer (some ⟨t, 0, none⟩), .pointer (some ⟨t, 34, none⟩), .int .i64 m, .pointer (some ⟨t, 0, none⟩), .func (.func 116) #[] #[.pointer (some ⟨w.heap.size + 2, 0, none⟩)], .int .i64 x.1, .agg #[.int .i64 x.2.1, .int .i64 x.2.2], undef, undef, undef, undef, undef, undef], defers := [] })
    (fun x a' s A C row hs hg hr => by
      obtain ⟨Bx, h1, h2, h3⟩ := hs
      exact ⟨Bx, h1, heap_own _ _ _ _ () A C row h2 hg hr, h3⟩)
    ?assign ?body ?done ?stop
  case assign =>
    rintro ly pre ⟨k, f, tt⟩ W K hi hK
    simp only [encIv] at hK ⊢
    have H1 := Lib.hid (And.intro hi hK)
    clear hi hK
    gi_wp2
    obtain ⟨⟨q1, q2, q3, q4⟩, q5⟩ := H1.out.1
    have hs := heap_lt q2
    have ht := HT.out.1.lt
    refine H1.out.2 _ _ ((KeepsOthers.alloc _ _).from _) (KpT.below ((Below.refl _ W).alloc (Nat.le_refl _) _) (by omega) (by omega)) ?_ ⟨W.heap.size, by omega, heap_alloc_new W _, rfl⟩
    exact ⟨⟨(Below.heap_alloc W _ _ (heap_lt q1)).trans q1, (Below.heap_alloc W _ _ (heap_lt q2)).trans q2, (Below.heap_alloc W _ _ (heap_lt q3)).trans q3, q4⟩, q5.trans ((Below.refl _ W).alloc q5.size _)⟩
  case body =>
    rintro ly pre ⟨k, f, tt⟩ a' W hl ⟨r, hr⟩ ⟨⟨q1, q2, q3, q4⟩, q5⟩ ⟨Bx, hBx, hbx, rfl⟩ hlen
    simp only at hbx ⊢
    have l0 := at_whole hbx 0 rfl
    have l1 := at_whole hbx 1 rfl
    have c0 := at_whole q1 0 rfl
    have c1 := at_whole q3 0 rfl
    have z1 := frozen_of_row W (w.heap.size + 1) 0 _ 3 q3
    simp only [List.getElem_toArray, List.getElem_cons_zero, List.getElem_cons_succ] at l0 l1 c0 c1
    have G := Lib.hid (And.intro q1 (And.intro q2 (And.intro q3 (And.intro q4 q5))))
    clear q1 q2 q3 q4 q5 hbx
    by_cases h2 : pn ≤ tt
    · have h2' := Lib.hid h2
      gi_wp2
      refine ⟨(KeepsOthers.setCell _ _ _).from _, ⟨⟨pre, (k, f, tt), ?_, rfl, G.out.2.2.2.1, h2'.out⟩, rfl⟩, G.out.2.2.2.2.setCell (p := ⟨w.heap.size + 1, 0, none⟩) (by simp) _⟩
      exact heap_setCell_same W (w.heap.size + 1) 0 _ 3 _ G.out.2.2.1
    · have e := Lib.hid (lowB_snoc (x := (k, f, tt)) G.out.2.2.2.1 (by show tt < pn; omega))
      gi_wp2
      exact ⟨(KeepsOthers.refl _).from _, KpT.refl _ _ _, ⟨⟨G.out.1, G.out.2.1, G.out.2.2.1, e.out⟩, G.out.2.2.2.2⟩⟩
  case done =>
    rintro D ys W hD rfl ⟨⟨q1, q2, q3, q4⟩, q5⟩ hK
    have H := Lib.hid (And.intro q3 (And.intro q4 (And.intro q5 hK)))
    have c1 := at_whole q3 0 rfl
    simp only [List.getElem_toArray, List.getElem_cons_zero] at c1
    clear q1 q2 q3 q4 q5 hK
    gi_wp2
    refine ⟨by simp, .inl ⟨_, _, rfl, run_takeDeferred H.out.2.2.2, ?_⟩⟩
    exact ⟨_, results_tmp rfl _ _ _, m, Nat.le_refl _, rfl, H.out.2.1, fun h => absurd h (Nat.lt_irrefl _), H.out.2.2.1.trans (belowK_b (w := w) (Nat.le_refl _) _ D _ _ (by omega) H.out.2.2.2 rfl rfl)⟩
  case stop =>
    rintro D c pre W hD ⟨k, hk, rfl⟩ ⟨⟨⟨pre', x, q1, e, q2, q3⟩, rfl⟩, q5⟩ hK
    rw [ivs_succ] at e
    obtain ⟨e1, e2⟩ := List.append_inj' e rfl
    obtain rfl : ivAt zs k = x := by simpa using e2
    subst e1
    simp only [ivAt] at q1 q3
    have H := Lib.hid (And.intro q1 (And.intro q2 (And.intro q3 (And.intro q5 hK))))
    have c1 := at_whole q1 0 rfl
    simp only [List.getElem_toArray, List.getElem_cons_zero] at c1
    clear q1 q2 q3 q5 hK e e2
    gi_wp2
    refine ⟨by simp, .inl ⟨_, _, rfl, run_takeDeferred H.out.2.2.2.2, ?_⟩⟩
    exact ⟨_, results_tmp rfl _ _ _, k, by omega, rfl, H.out.2.1, fun _ => H.out.2.2.1, H.out.2.2.2.1.trans (belowK_b (w := w) (Nat.le_refl _) _ D _ _ (by omega) H.out.2.2.2.2 rfl rfl)⟩
end Go.Proofs.YtpfkeohaaeiaaaaGreatDoor.frm
/- copy where an element has several cells: nothing goes over; a row laid over a whole block. -/
namespace Go.Proofs.YtpfkeohaaeiaaaaGreatDoor.frm
open Go.RowKit
set_option maxRecDepth 100000
variable {P : Program}
theorem run_copy_noneS (w : World) (dT sT ty elem : TypeId) (d a : Option Addr) (dLen dCap sLen sCap : Nat) (hu : P.underlying dT = some (.slice elem)) (hs : ((P.info? elem).map (·.size)).isSome = true) (hn : Nat.min sLen dLen = 0) :
    (Builtin.copy_ #[dT, sT] ty #[.slice d dLen dCap, .slice a sLen sCap]).run P w = .ok (goInt 0) w := by
  cases hq : P.info? elem with
  | none => simp [hq] at hs
  | some i =>
    have hl : ∀ (x : Addr), (loadCells x 0).run P w = .ok #[] w := fun x => by simpa using run_loadCells_list (P := P) w x [] (by simp)
    cases d <;> cases a <;> simp [Builtin.copy_, run_underlying hu, Builtin.lenOf, Builtin.firstCells, sizeOf, typeInfo, hq, hn, storeCells, hl]
theorem run_copy_rowS (w : World) (dT sT ty elem : TypeId) (size n : Nat) (g o dLen dCap : Nat) (a : Addr) (sLen sCap : Nat) (cur : Array Value) (t : TypeId) (cs : List Value)
    (hu : P.underlying dT = some (.slice elem)) (hs : (P.info? elem).map (·.size) = some size)
    (hg : w.heap[g]? = some (.cells cur t (0, 0))) (hn : n = Nat.min sLen dLen) (hcs : cs.length = n * size)
    (hsrc : ∀ j v, cs[j]? = some v → w.cell? (a.add j) = some v) (hfit : o + cs.length ≤ cur.size) (h1 : ∀ v ∈ cs, v.oneCell' = true) :
    (Builtin.copy_ #[dT, sT] ty #[.slice (some ⟨g, o, none⟩) dLen dCap, .slice (some a) sLen sCap]).run P w =
      .ok (goInt n) (w.setRow g (cur.toList.take o ++ cs ++ cur.toList.drop (o + cs.length)).toArray) := by
  have hl := run_loadCells_list (P := P) w a cs hsrc
  have hst := run_storeCells_at P g o t cs 0 cur w hg (by simpa using hfit) h1
  rw [hcs] at hl
  cases hq : P.info? elem with
  | none => simp [hq] at hs
  | some i =>
    have hi : i.size = size := by simpa [hq] using hs
    simp [Builtin.copy_, run_underlying hu, Builtin.lenOf, Builtin.firstCells, sizeOf, typeInfo, hq, hi, ← hn, hl, hst]
theorem wpList_copy_noneS {w : World} {ops : Array Oper} {rest : List Oper} {o : Oper} {a : Act} {Q : Exit → Act → World → Prop} (hgd : o.guard = none) (d s : Operand) (dT sT : TypeId)
    (ho : o.op = .call { callee := .builtin .copy, args := #[d, s], argTypes := #[dT, sT] }) (elem : TypeId) (hu : P.underlying dT = some (.slice elem)) (hsz : ((P.info? elem).map (·.size)).isSome = true)
    (dp sp : Option Addr) (dLen dCap sLen sCap : Nat) (hd : a.eval d = .slice dp dLen dCap) (hs : a.eval s = .slice sp sLen sCap) (hn : Nat.min sLen dLen = 0)
    (h : wpList P ops Q rest (a.put o.dst (goInt 0)) w) : wpList P ops Q (o :: rest) a w := by
  refine wpList_plain hgd fun K hK => ?_
  have hrun := run_copy_noneS (P := P) w dT sT o.type elem dp sp dLen dCap sLen sCap hu hsz hn
  unfold Oper.wp
  simp [execOp, ho, resolve, invoke, builtin, hd, hs, hrun, Result.andThen]
  exact hK _ _ h
theorem wpList_copy_rowS {w : World} {ops : Array Oper} {rest : List Oper} {o : Oper} {a : Act} {Q : Exit → Act → World → Prop} (hgd : o.guard = none) (d s : Operand) (dT sT : TypeId)
    (ho : o.op = .call { callee := .builtin .copy, args := #[d, s], argTypes := #[dT, sT] }) (elem : TypeId) (size n : Nat) (hu : P.underlying dT = some (.slice elem)) (hsz : (P.info? elem).map (·.size) = some size)
    (g off dLen dCap : Nat) (ad : Addr) (sLen sCap : Nat) (hd : a.eval d = .slice (some ⟨g, off, none⟩) dLen dCap) (hs : a.eval s = .slice (some ad) sLen sCap)
    (cur : Array Value) (t : TypeId) (hg : w.heap[g]? = some (.cells cur t (0, 0))) (cs : List Value) (hn : n = Nat.min sLen dLen) (hcs : cs.length = n * size)
    (hsrc : ∀ j v, cs[j]? = some v → w.cell? (ad.add j) = some v) (hfit : off + cs.length ≤ cur.size) (h1 : ∀ v ∈ cs, v.oneCell' = true)
    (h : wpList P ops Q rest (a.put o.dst (goInt n)) (w.setRow g (cur.toList.take off ++ cs ++ cur.toList.drop (off + cs.length)).toArray)) : wpList P ops Q (o :: rest) a w := by
  refine wpList_plain hgd fun K hK => ?_
  rw [List.append_assoc] at h
  have hrun := run_copy_rowS (P := P) w dT sT o.type elem size n g off dLen dCap ad sLen sCap cur t cs hu hsz hg hn hcs hsrc hfit h1
  unfold Oper.wp
  simp [execOp, ho, resolve, invoke, builtin, hd, hs, hrun, Result.andThen]
  exact hK _ _ h
end Go.Proofs.YtpfkeohaaeiaaaaGreatDoor.frm
/- Law 13: add, where the number lies at or behind the end. -/
namespace Go.Proofs.YtpfkeohaaeiaaaaGreatDoor.frm
open Go.RowKit Go.Sort
set_option maxRecDepth 100000
def AddPost (zs' : List Int) (t : Nat) (w : World) (e : Ending) (w' : World) : Prop := e = .returned (.tuple #[]) ∧ TkAt w' t zs' ∧ Tu t t w w'
set_option maxRecDepth 100000 in
set_option maxHeartbeats 4000000 in
/-- the last interval ends just there: it is made longer -/
theorem add_end (t m : Nat) (zs : List Int) (pn : Int) (w : World) (hT : TkAt w t zs) (hm : m ≤ 16) (hz : zs[34]?.getD (0:Int) = ((m + 1 : Nat):Int)) (hl : ∀ k, k < m → zs[k * 2 + 1]?.getD 0 < pn) (he : zs[m * 2 + 1]?.getD 0 = pn) (h0 : 0 ≤ pn) (h1 : pn ≤ 281474976710656) :
    Calls Tryz.prog 79 #[.pointer (some ⟨t, 0, none⟩), .int .i64 pn] w (AddPost (zs.set (m * 2 + 1) (pn + 1)) t w) := by
  have P := Lib.hid (place_any t (m + 1) zs pn w hT (by omega) hz)
  have HT := Lib.hid (And.intro hT (And.intro hz (And.intro hl he)))
  clear hT hz hl he
  go_enter Tryz.func79, Tryz.ntmps79
  go_wp2_with fail
  refine P.out.mono ?_
  rintro e w1 ⟨k, hk, rfl, hlow, hat, hb⟩
  have ek : k = m := by
    rcases Nat.lt_trichotomy k m with h | h | h
    · have := hat (by omega); have := HT.out.2.2.1 k h; omega
    · exact h
    · have := lowB_at hlow m h; have := HT.out.2.2.2; omega
  subst ek
  have T1 := HT.out.1.block (hb.block t HT.out.1.lt)
  have y34 := T1.cell 34 (by decide)
  have y1 := T1.cell (k * 2 + 1) (by omega)
  have z1 := T1.frozen (k * 2 + 1)
  rw [HT.out.2.1] at y34
  rw [HT.out.2.2.2] at y1
  have HB := Lib.hid (And.intro T1 hb)
  have i1 : (0 : Int) ≤ (k : Int) := by omega
  have i2 : (k : Int) < ((k + 1 : Nat) : Int) := by omega
  clear hlow hat hb T1
  have i5 : (k : Int) < 17 := by omega
  go_wp2
  go_still_tail 12, (by kernel_rfl)
  have T2 : TkAt ((w1.setCell ⟨t, k * 2 + 1, none⟩ (.int .i64 (pn + 1))).drew) t (zs.set (k * 2 + 1) (pn + 1)) := HB.out.1.set _ _
  have y35 := T2.cell 34 (by decide)
  rw [List.getElem?_set_ne (by omega), HT.out.2.1] at y35
  have H2 := Lib.hid (And.intro T2 (show Tu t t w ((w1.setCell ⟨t, k * 2 + 1, none⟩ (.int .i64 (pn + 1))).drew) from ((Tu.below HB.out.2).trans (Tu.set _ _ _)).drew))
  clear T2
  go_wp2
  clear y34 y1 z1 HB
  generalize (w1.setCell _ _).drew = W1 at *
  have i3 : decide ((k : Int) + 1 < ((k + 1 : Nat) : Int)) = false := decide_eq_false (by omega)
  have i4 : IntKind.i64.wrap ((k : Int) + 1) = (k : Int) + 1 := IntWalk.i64_in _ (by omega)
  go_quiet (fail)
  go_wp2
  go_returns
  exact ⟨rfl, H2.out.1, H2.out.2.drewN _⟩
theorem slice_none (t k : Nat) (w : World) (hm : k ≤ 16) : (Instr.sliceAt 104 (.pointer (some ⟨t, 0, none⟩)) (some (.int .i64 k)) (some (.int .i64 k)) none).run Tryz.prog w = .ok (.slice (some ⟨t, k * 2, none⟩) 0 (17 - k)) w := by
  have i6 : (k : Int) ≤ 17 := by omega
  have i7 : ¬ 17 = k := by omega
  simp [go_sem, i6, i7]
theorem slice_from (t k : Nat) (hm : k ≤ 16) : ∃ dp n, ∀ w, (Instr.sliceAt 104 (.pointer (some ⟨t, 0, none⟩)) (some (.int .i64 ((k : Int) + 1))) none none).run Tryz.prog w = .ok (.slice dp n n) w := by
  have i6 : (k : Int) + 1 ≤ 17 := by omega
  have i7 : (0 : Int) ≤ (k : Int) + 1 := by omega
  exact ⟨_, _, fun w => by simp [go_sem, i6, i7]; exact ⟨rfl, rfl⟩⟩
set_option maxRecDepth 100000 in
set_option maxHeartbeats 4000000 in
/-- a new interval behind all of them -/
theorem add_new (t m : Nat) (zs : List Int) (pn : Int) (w : World) (hT : TkAt w t zs) (hm : m ≤ 16) (hz : zs[34]?.getD (0:Int) = (m:Int)) (hl : ∀ k, k < m → zs[k * 2 + 1]?.getD 0 < pn) (h0 : 0 ≤ pn) (h1 : pn ≤ 281474976710656) :
    Calls Tryz.prog 79 #[.pointer (some ⟨t, 0, none⟩), .int .i64 pn] w (AddPost (((zs.set (m * 2) pn).set (m * 2 + 1) (pn + 1)).set 34 ((m : Int) + 1)) t w) := by
  have P := Lib.hid (place_any t m zs pn w hT (by omega) hz)
  have HT := Lib.hid (And.intro hT (And.intro hz hl))
  clear hT hz hl
  go_enter Tryz.func79, Tryz.ntmps79
  go_wp2_with fail
  refine P.out.mono ?_
  rintro e w1 ⟨k, hk, rfl, hlow, hat, hb⟩
  have ek : k = m := by
    rcases Nat.lt_or_ge k m with h | h
    · have := hat h; have := HT.out.2.2 k h; omega
    · omega
  subst ek
  have T1 := HT.out.1.block (hb.block t HT.out.1.lt)
  have y34 := T1.cell 34 (by decide)
  rw [HT.out.2.1] at y34
  have HB := Lib.hid (And.intro T1 hb)
  have i1 : (0 : Int) ≤ (k : Int) := by omega
  have i2 : ((k : Int) < (k : Int)) = False := eq_false (by omega)
  have i3 : (k : Int) ≤ 16 := by omega
  clear hlow hat hb T1
  go_wp2
  have i4 : IntKind.i64.wrap ((k : Int) + 1) = (k : Int) + 1 := IntWalk.i64_in _ (by omega)
  have i5 : (k : Int) + 1 ≤ 17 := by omega
  have hsl : ∀ w, (Instr.sliceAt 104 (.pointer (some ⟨t, 0, none⟩)) (some (.int .i64 k)) (some (.int .i64 k)) none).run Tryz.prog w = .ok (.slice (some ⟨t, k * 2, none⟩) 0 (17 - k)) w := fun w => slice_none t k w hm
  obtain ⟨dp, dn, hsl2⟩ := slice_from t k hm
  go_still_tail 15, (by kernel_rfl)
  refine wpList_copy_noneS rfl (.tmp 115) (.tmp 124) 54 54 rfl 103 Tryz.underlying54 (by kernel_rfl) dp (some ⟨t, k * 2, none⟩) dn dn 0 (17 - k) rfl rfl (by simp) ?_
  have T2 : TkAt w1 t zs := HB.out.1
  have T3 : TkAt w1.drew t zs := HB.out.1
  have H2 := Lib.hid (And.intro T3 (show Tu t t w w1.drew from (Tu.below HB.out.2).drew))
  clear y34 T3
  have y0 := T2.cell (k * 2) (by omega)
  have y1 := T2.cell (k * 2 + 1) (by omega)
  have y34 := T2.cell 34 (by decide)
  rw [HT.out.2.1] at y34
  have z0 := T2.frozen (k * 2)
  have z1 := T2.frozen (k * 2 + 1)
  have z34 := T2.frozen 34
  have i8 : ¬ k * 2 = 34 := by omega
  have i9 : ¬ k * 2 + 1 = 34 := by omega
  have i10 : ¬ 34 = k * 2 := by omega
  have i11 : ¬ 34 = k * 2 + 1 := by omega
  have i12 : (k : Int) < 17 := by omega
  clear T2 hsl hsl2 HB i2
  go_wp2
  go_returns
  exact ⟨rfl, ((H2.out.1.set _ _).set _ _).set _ _, ((H2.out.2.trans (Tu.set _ _ _)).trans (Tu.set _ _ _)).trans (Tu.set _ _ _)⟩
end Go.Proofs.YtpfkeohaaeiaaaaGreatDoor.frm
/- Law 13: schedule, Receive (in order), New. -/
namespace Go.Proofs.YtpfkeohaaeiaaaaGreatDoor.frm
open Go.RowKit Go.Sort
set_option maxRecDepth 100000
theorem TkAt.same {w : World} {t : Nat} {zs : List Int} (h : TkAt w t zs) (i : Nat) (x : Int) (hx : zs[i]?.getD 0 = x) (hi : i < 41) : zs.set i x = zs := by
  have : i < zs.length := by rw [h.1]; exact hi
  rw [List.getElem?_eq_getElem this] at hx
  have hx : zs[i] = x := hx
  rw [← hx]
  exact List.set_getElem_self this
def SchedPost (zs : List Int) (t : Nat) (w w' : World) : Prop :=
  ∃ c d : Int, TkAt w' t ((zs.set 39 c).set 40 d) ∧ 0 ≤ c ∧ c ≤ zs[39]?.getD (0:Int) + 1 ∧ -1 ≤ d ∧ d ≤ 4000000000000 ∧ Tu t t w w'
set_option maxRecDepth 100000 in
set_option maxHeartbeats 4000000 in
theorem sched_any (t : Nat) (zs : List Int) (now : Int) (od : Bool) (w : World) (hT : TkAt w t zs) (dl : Int) (e1 : zs[35]?.getD (0:Int) = dl) (hd1 : 0 ≤ dl) (hd2 : dl ≤ 20) (c : Int) (e2 : zs[39]?.getD (0:Int) = c) (hc1 : 0 ≤ c) (hc2 : c ≤ 1000000000)
    (d : Int) (e3 : zs[40]?.getD (0:Int) = d) (hu1 : -1 ≤ d) (hu2 : d ≤ 4000000000000) (hn1 : 0 ≤ now) (hn2 : now ≤ 1099511627776) :
    Calls Tryz.prog 81 #[.pointer (some ⟨t, 0, none⟩), .int .i64 now, .bool od] w fun e w' => e = .returned (.tuple #[]) ∧ SchedPost zs t w w' := by
  have y35 := hT.cell 35 (by decide)
  have y39 := hT.cell 39 (by decide)
  have y40 := hT.cell 40 (by decide)
  have z39 := hT.frozen 39
  have z40 := hT.frozen 40
  have fin1 : ∀ x : Int, -1 ≤ x → x ≤ 4000000000000 → SchedPost zs t w ((w.setCell ⟨t, 39, none⟩ (.int .i64 (c + 1))).setCell ⟨t, 40, none⟩ (.int .i64 x)) := fun x h1 h2 =>
    ⟨c + 1, x, (hT.set 39 _).set 40 _, by omega, by omega, h1, h2, (Tu.set _ _ _).trans (Tu.set _ _ _)⟩
  have fin2 : SchedPost zs t w (w.setCell ⟨t, 39, none⟩ (.int .i64 (c + 1))) :=
    ⟨c + 1, d, by rw [(hT.set 39 (c + 1)).same 40 d (by rw [List.getElem?_set_ne (by decide)]; exact e3) (by decide)]; exact hT.set 39 _, by omega, by omega, hu1, hu2, Tu.set _ _ _⟩
  have F1 := Lib.hid fin1
  have F2 := Lib.hid fin2
  rw [e1] at y35
  rw [e2] at y39
  rw [e3] at y40
  clear fin1 fin2 hT e1 e2 e3
  by_cases h1 : c + 1 < 2
  · cases od with
    | true =>
      by_cases h2 : d = -1
      · subst h2
        go_enter Tryz.func81, Tryz.ntmps81
        go_wp2
        go_returns
        exact ⟨rfl, F1.out _ (by omega) (by omega)⟩
      · have h2' : (d == -1) = false := beq_eq_false_iff_ne.2 h2
        clear h2
        by_cases h3 : now + dl < d
        · go_enter Tryz.func81, Tryz.ntmps81
          go_wp2
          go_returns
          exact ⟨rfl, F1.out _ (by omega) (by omega)⟩
        · go_enter Tryz.func81, Tryz.ntmps81
          go_wp2
          go_returns
          exact ⟨rfl, F2.out⟩
    | false =>
      by_cases h2 : d = -1
      · subst h2
        go_enter Tryz.func81, Tryz.ntmps81
        go_wp2
        go_returns
        exact ⟨rfl, F1.out _ (by omega) (by omega)⟩
      · have h2' : (d == -1) = false := beq_eq_false_iff_ne.2 h2
        clear h2
        by_cases h3 : now < d
        · go_enter Tryz.func81, Tryz.ntmps81
          go_wp2
          go_returns
          exact ⟨rfl, F1.out _ (by omega) (by omega)⟩
        · go_enter Tryz.func81, Tryz.ntmps81
          go_wp2
          go_returns
          exact ⟨rfl, F2.out⟩
  · by_cases h2 : d = -1
    · subst h2
      go_enter Tryz.func81, Tryz.ntmps81
      go_wp2
      go_returns
      exact ⟨rfl, F1.out _ (by omega) (by omega)⟩
    · have h2' : (d == -1) = false := beq_eq_false_iff_ne.2 h2
      clear h2
      by_cases h3 : now < d
      · go_enter Tryz.func81, Tryz.ntmps81
        go_wp2
        go_returns
        exact ⟨rfl, F1.out _ (by omega) (by omega)⟩
      · go_enter Tryz.func81, Tryz.ntmps81
        go_wp2
        go_returns
        exact ⟨rfl, F2.out⟩
end Go.Proofs.YtpfkeohaaeiaaaaGreatDoor.frm
