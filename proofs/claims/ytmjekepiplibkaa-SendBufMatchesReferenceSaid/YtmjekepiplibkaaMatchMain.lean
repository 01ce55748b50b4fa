/- SendBufMatchesReference: the buffer and the reference's agree at each of at most fifty calls. -/
import Derived.Test.YtmjekepiplibkaaRl
import Derived.Test.YtmjekepiplibkaaS
import Derived.Deep.RegionHeld3
import Derived.Deep.RegionWith
import Derived.Deep.DrawnRows
namespace Go.Proofs.Ytmjekepiplibkaa
open Go.RowKit
theorem size44 (c : Cp) : (Try.prog.info? 44).map (·.size) = some c.cells.length := by kernel_rfl
theorem size44' (c : Cp) : (Try.prog.info? 44).map (·.size) = some c.cells.toArray.size := by kernel_rfl
def cpO (c : Cp) : Obj := .cells c.cells.toArray 44 (0, 0)
theorem one_cp {c : Cp} (h : CpWf c) : c.cells.toArray.all (·.oneCell') = true := by
  have := h.f.ranges
  simp [Cp.cells, Fr.cells, Value.oneCell']
  exact this
/-- a call out of the argument -/
theorem wpList_load_cp {ops : Array Oper} {rest : List Oper} {o : Oper} {a : Act} {w : World} {Q : Exit → Act → World → Prop} (hgd : o.guard = none) (x : Operand) (ho : o.op = .load 44 x) (c : Cp)
    (g k : Nat) (hx : a.eval x = .pointer (some ⟨g, k, none⟩)) (hc : w.rangeAt g k c.cells)
    (h : wpList Try.prog ops Q rest (a.put o.dst (.agg c.cells.toArray)) w) : wpList Try.prog ops Q (o :: rest) a w :=
  wpList_load_mid hgd 44 x ho g k hx c.cells _ hc Try.underlying44 rfl (size44 c) h
theorem wpList_store_cp {ops : Array Oper} {rest : List Oper} {o : Oper} {a : Act} {w : World} {Q : Exit → Act → World → Prop} (hgd : o.guard = none) (x y : Operand) (ho : o.op = .store 44 x y) (c : Cp) (h1 : c.cells.toArray.all (·.oneCell') = true)
    (cs : Array Value) (hcs : cs.size = 18) (hx : a.eval x = .pointer (some ⟨w.heap.size, 0, none⟩)) (hy : a.eval y = .agg c.cells.toArray)
    (h : wpList Try.prog ops Q rest (a.put o.dst undef) (w.alloc (.cells c.cells.toArray 44))) : wpList Try.prog ops Q (o :: rest) a (w.alloc (.cells cs 44)) :=
  wpList_store_row hgd 44 x y ho w.heap.size c.cells.toArray hx hy 44 cs (heap_alloc_new _ _) (size44' c) hcs h1 (by rw [World.setRow_alloc_new]; exact h)
structure CpBox (w : World) (g : Nat) (c : Cp) : Prop where
  d0 : w.cell? ⟨g, 0, none⟩ = some (.int .i64 c.kind)
  d1 : w.cell? ⟨g, 1, none⟩ = some (.int .i64 c.n)
  d2 : w.cell? ⟨g, 2, none⟩ = some (.int .i64 c.credit)
  d3 : w.cell? ⟨g, 3, none⟩ = some (.string c.s)
  d4 : w.cell? ⟨g, 4, none⟩ = some (.int .i64 c.which)
theorem CpBox.of {w : World} {g : Nat} {c : Cp} (h : w.heap[g]? = some (cpO c)) : CpBox w g c := ⟨cell_whole h 0, cell_whole h 1, cell_whole h 2, cell_whole h 3, cell_whole h 4⟩
theorem wpList_append_mr {ops : Array Oper} {rest : List Oper} {o : Oper} {a : Act} {w : World} {Q : Exit → Act → World → Prop} (hgd : o.guard = none) (s x : Operand)
    (ho : o.op = .call { callee := .builtin .append, args := #[s, x], argTypes := #[42, 42] }) {W : World} {b r : Nat} {F G : Nat → Prop} {X Y : Wh} {os : List (Nat × Obj)} {v : Value} {l : List Fr} (h : Mr W w b r F G X Y os v l) (hs : a.eval s = v)
    (f : Fr) (h1 : f.cells.all (·.oneCell') = true) (g : Nat) (hx : a.eval x = .slice (some ⟨g, 0, none⟩) 1 1) (hg : w.heap[g]? = some (.cells f.cells 35 (0, 0))) (hl : l.length ≤ 2000)
    (hK : ∀ v' w', Mr W w' b r F G X Y os v' (l ++ [f]) → wpList Try.prog ops Q rest (a.put o.dst v') w') : wpList Try.prog ops Q (o :: rest) a w := by
  obtain ⟨i, e1, e2, e3, e4⟩ := facts35
  have hsrc : Src Try.prog 13 42 (.slice (some ⟨g, 0, none⟩) 1 1) 1 f.cells.toList w := Src.ofSlice w Try.underlying42 _ 1 1 _ rfl (fun j u hu => by rw [add_plain, Nat.zero_add, cell_whole hg]; simpa using hu) (fun u hu => (Array.all_eq_true_iff_forall_mem.1 h1) u (by simpa using hu))
  refine wpList_plain hgd fun _ hKK => ?_
  obtain ⟨v', w', hr, h2, h3, h4⟩ := run_append_src (P := Try.prog) w W.heap.size 42 42 o.type 35 i fr0.val 13 i.bytes Try.underlying42 e1 e2 e3 rfl rfl (by decide) v l.length (fsCells l) h.sf.row _ 1 f.cells.toList hsrc (by unfold maxLen; omega) (by have := Nat.mul_le_mul (show l.length + 1 ≤ 2001 by omega) e4; omega) h.sf.below.size
  unfold Oper.wp execOp
  simp only [ho, resolve, invoke, builtin, Sem.run_bind, Sem.run_pure, Result.andThen_ok, List.map_toArray, List.map_cons, List.map_nil, hs, hx, hr]
  exact hKK _ _ (hK v' w' (h.append f h2 h3 h4))
theorem Mr.allocC {W w : World} {b r : Nat} {F G : Nat → Prop} {X Y : Wh} {os : List (Nat × Obj)} {v : Value} {l : List Fr} (h : Mr W w b r F G X Y os v l) (c : Cp) : Mr W (w.alloc (.cells c.cells.toArray 44)) b r F G X Y ((w.heap.size, cpO c) :: os) v l := h.alloc (cpO c)
theorem Mr.allocF {W w : World} {b r : Nat} {F G : Nat → Prop} {X Y : Wh} {os : List (Nat × Obj)} {v : Value} {l : List Fr} (h : Mr W w b r F G X Y os v l) (f : Fr) : Mr W (w.alloc (.cells f.cells 35)) b r F G X Y ((w.heap.size, frO f) :: os) v l := h.alloc (frO f)
theorem mr_rfin {W w : World} {b r : Nat} {F G : Nat → Prop} {X Y : Wh} {os : List (Nat × Obj)} {v : Value} {l : List Fr} (h : Mr W w b r F G X Y os v l) :
    (∃ z, w.cell? ⟨r, 3, none⟩ = some z) ∧ w.frozen? ⟨r, 3, none⟩ = false ∧ Mr W (w.setCell ⟨r, 3, none⟩ (.bool true)) b r F (Ext G w (w.setCell ⟨r, 3, none⟩ (.bool true))) X { Y with fin := true } os v l := by
  have hr := h.rr
  obtain ⟨A, vs, R⟩ := hr
  exact ⟨⟨_, R.facts.c3⟩, R.facts.fr 3, h.ref ((Chg.refl G w).set r 3 _ R.gr) ⟨A, vs, (R.set (X' := { Y with fin := true }) (A' := A) 3 (.bool true) rfl rfl R.sz).ext (fun k hk => .inl hk)⟩ h.yok.finish⟩
theorem frc {w : World} {g : Nat} {x : Fr} (h : w.heap[g]? = some (.cells x.cells 35 (0, 0))) : w.cell? ⟨g, 0, none⟩ = some (.int .i64 x.ty) ∧ w.cell? ⟨g, 1, none⟩ = some (.int .i64 x.str) ∧ w.cell? ⟨g, 2, none⟩ = some (.int .i64 x.off) ∧ w.cell? ⟨g, 3, none⟩ = some (.string x.s) ∧ w.cell? ⟨g, 4, none⟩ = some (.bool x.fin) ∧ w.cell? ⟨g, 5, none⟩ = some (.int .i64 x.max) ∧ w.cell? ⟨g, 6, none⟩ = some (.int .i64 x.code) ∧ w.cell? ⟨g, 7, none⟩ = some (.bool x.uni) ∧ w.cell? ⟨g, 8, none⟩ = some (.int .i64 x.delay) ∧ w.cell? ⟨g, 9, none⟩ = some x.ranges ∧ w.cell? ⟨g, 10, none⟩ = some (.int .i64 x.seq) ∧ w.cell? ⟨g, 11, none⟩ = some (.int .i64 x.retire) ∧ w.cell? ⟨g, 12, none⟩ = some (.string x.cid) :=
  ⟨cell_whole h 0, cell_whole h 1, cell_whole h 2, cell_whole h 3, cell_whole h 4, cell_whole h 5, cell_whole h 6, cell_whole h 7, cell_whole h 8, cell_whole h 9, cell_whole h 10, cell_whole h 11, cell_whole h 12⟩
def MS (gc gx : Nat) (c : Cp) (x : Fr) (w' : World) : Prop := w'.cell? ⟨gc, 4, none⟩ = some (.int .i64 c.which) ∧ w'.cell? ⟨gx, 0, none⟩ = some (.int .i64 x.ty) ∧ w'.cell? ⟨gx, 1, none⟩ = some (.int .i64 x.str) ∧ w'.cell? ⟨gx, 2, none⟩ = some (.int .i64 x.off) ∧ w'.cell? ⟨gx, 3, none⟩ = some (.string x.s) ∧ w'.cell? ⟨gx, 4, none⟩ = some (.bool x.fin) ∧ w'.cell? ⟨gx, 5, none⟩ = some (.int .i64 x.max) ∧ w'.cell? ⟨gx, 6, none⟩ = some (.int .i64 x.code) ∧ w'.cell? ⟨gx, 7, none⟩ = some (.bool x.uni) ∧ w'.cell? ⟨gx, 8, none⟩ = some (.int .i64 x.delay) ∧ w'.cell? ⟨gx, 9, none⟩ = some x.ranges ∧ w'.cell? ⟨gx, 10, none⟩ = some (.int .i64 x.seq) ∧ w'.cell? ⟨gx, 11, none⟩ = some (.int .i64 x.retire) ∧ w'.cell? ⟨gx, 12, none⟩ = some (.string x.cid)
theorem ms_of {W w : World} {b r gc gx : Nat} {F G : Nat → Prop} {X Y : Wh} {c : Cp} {x : Fr} {v : Value} {l : List Fr} (h : Mr W w b r F G X Y [(gx, frO x), (gc, cpO c)] v l) : MS gc gx c x w :=
  ⟨cell_whole (h.sf.far (gc, cpO c) (by simp)).1 4, frc (h.fr (by simp))⟩
/-- the state at a round's head -/
structure MtSt (W w : World) (b r k : Nat) (F G : Nat → Prop) (X : Wh) (os : List (Nat × Obj)) (v : Value) (l : List Fr) : Prop where
  mr : Mr W w b r F G X X os v l
  ok : ∀ f ∈ l, FrIn f
  few : l.length ≤ k
  short : X.S.length ≤ 30 * k
section
variable {W w w' : World} {b r k : Nat} {F F' G G' : Nat → Prop} {X : Wh} {os os' : List (Nat × Obj)} {v v' : Value} {l : List Fr}
theorem MtSt.write (h : MtSt W w b r k F G X os v l) (s : ByteArray) (hs : s.size ≤ 30) (h2 : Mr W w' b r F' G' (X.write s) (X.write s) os' v l) : MtSt W w' b r (k + 1) F' G' (X.write s) os' v l := by
  have hf := h.few; have hsh := h.short; have hn := (X.writeN_le s).1
  refine ⟨h2, h.ok, by omega, ?_⟩
  show (X.S ++ (bytesOf s).take (X.writeN s)).length ≤ _
  rw [List.length_append, List.length_take]; omega
theorem MtSt.next (h : MtSt W w b r k F G X os v l) (hk : k ≤ 50) {most credit : Int} {p : Nat × Nat} (hp : X.nextP most credit = some p) (h2 : Mr W w' b r F' G' (X.nextX (some p)) (X.nextX (some p)) os' v' (l ++ [X.nextR (some p)])) : MtSt W w' b r (k + 1) F' G' (X.nextX (some p)) os' v' (l ++ [X.nextR (some p)]) := by
  have hf := h.few; have hsh := h.short
  have hP := Wh.nextP_piece h.mr.sf.ok hp
  refine ⟨h2, fun g hg => ?_, by simp; omega, by show X.S.length ≤ _; omega⟩
  rcases List.mem_append.1 hg with hg | hg
  · exact h.ok g hg
  · simp only [List.mem_singleton] at hg; subst hg
    have ht := hP.t
    have hft := hP.ft
    refine ⟨⟨by show (-9223372036854775808 : Int) ≤ ((p.1 : Nat) : Int); omega, by show ((p.1 : Nat) : Int) ≤ 9223372036854775807; omega⟩, ?_, one35 _ _ _ _⟩
    show (strOfNums ((X.S.drop p.1).take (p.2 - p.1))).size ≤ 2000
    rw [strOfNums_size, List.length_take, List.length_drop]; omega
theorem MtSt.none (h : MtSt W w b r k F G X os v l) (h2 : Mr W w' b r F' G' X X os' v l) : MtSt W w' b r (k + 1) F' G' X os' v l :=
  ⟨h2, h.ok, by have := h.few; omega, by have := h.short; omega⟩
theorem MtSt.finish (h : MtSt W w b r k F G X os v l) (h2 : Mr W w' b r F' G' { X with fin := true } { X with fin := true } os' v l) : MtSt W w' b r (k + 1) F' G' { X with fin := true } os' v l :=
  ⟨h2, h.ok, by have := h.few; omega, by have := h.short; show X.S.length ≤ _; omega⟩
theorem MtSt.acked (h : MtSt W w b r k F G X os v l) (f : Fr) (h2 : Mr W w' b r F' G' (X.acked f) (X.acked f) os' v l) : MtSt W w' b r (k + 1) F' G' (X.acked f) os' v l :=
  ⟨h2, h.ok, by have := h.few; omega, by have := h.short; have e : (X.acked f).S = X.S := by { unfold Wh.acked; split <;> rfl }; rw [e]; omega⟩
theorem MtSt.lost (h : MtSt W w b r k F G X os v l) (f : Fr) (h2 : Mr W w' b r F' G' (X.lost f) (X.lost f) os' v l) : MtSt W w' b r (k + 1) F' G' (X.lost f) os' v l :=
  ⟨h2, h.ok, by have := h.few; omega, by have := h.short; have e : (X.lost f).S = X.S := by { unfold Wh.lost; split <;> rfl }; rw [e]; omega⟩
end
theorem new_all (n : Int) (w : World) : Calls Try.prog 12 #[.int .i64 n] w fun e w' => ∃ p, e = .returned (.tuple #[p, .int .i64 (if goodLim n then 0 else 2)]) ∧ Below w.heap.size w w' := by
  by_cases h : 1 ≤ n ∧ n ≤ 8192
  · have e : goodLim n = true := by unfold goodLim; simp [h.1, h.2]
    rw [e]
    exact (new_ok n w h.1 h.2).mono fun e w' hh => ⟨_, hh.1, by rw [hh.2]; exact (Below.refl _ w).alloc (Nat.le_refl _) _⟩
  · have e : goodLim n = false := by unfold goodLim; simp; omega
    rw [e]
    exact (new_no n w h).mono fun e w' hh => ⟨_, hh.1, by rw [hh.2]; exact Below.refl _ w⟩
theorem rnew_all (n : Int) (w : World) : Calls Try.prog 22 #[.int .i64 n] w fun e w' => ∃ p, e = .returned (.tuple #[p, .int .i64 (if goodLim n then 0 else 2)]) ∧ Below w.heap.size w w' := by
  by_cases h : 1 ≤ n ∧ n ≤ 8192
  · have e : goodLim n = true := by unfold goodLim; simp [h.1, h.2]
    rw [e]
    exact (rnew_ok n w h.1 h.2).mono fun e w' hh => ⟨_, hh.1, by rw [hh.2]; exact (Below.refl _ w).alloc (Nat.le_refl _) _⟩
  · have e : goodLim n = false := by unfold goodLim; simp; omega
    rw [e]
    exact (rnew_no n w h).mono fun e w' hh => ⟨_, hh.1, by rw [hh.2]; exact Below.refl _ w⟩
end Go.Proofs.Ytmjekepiplibkaa
namespace Go.Proofs.Ytmjekepiplibkaa.sendBufMatchesReference
open Go.RowKit Go.WideShapes Go.ChangeShapes
attribute [local go_sem ↓] Go.wp_at_zero Go.wp_at_succ
set_option maxRecDepth 100000 in
set_option maxHeartbeats 80000000 in
theorem walk (limit : Int) (cl : List Cp) (a0 : Option Addr) (cap0 : Nat) (w : World) (hl : -9223372036854775808 ≤ limit ∧ limit ≤ 9223372036854775807)
    (hz : CpsAt w (.slice a0 cl.length cap0) cl) (hmz : cl.length ≤ maxLen) (hrz : ∀ c ∈ cl, CpWf c) :
    Calls Try.prog 8 #[.int .i64 limit, .slice a0 cl.length cap0] w fun e w' => e = .returned (.bool true) ∧ Below w.heap.size w w' := by
  unfold maxLen at hmz
  have PL := Lib.hid (fun (wx : World) => pick_any limit 40 wx hl.1 hl.2 (by decide) (by decide))
  have r1 := pickF_range limit 40 (by decide)
  generalize pickF limit 40 = p at *
  obtain ⟨p1, p2⟩ := r1
  have HZ := Lib.hid hz
  have HRZ := Lib.hid hrz
  have NA := Lib.hid (fun (wx : World) => new_all limit wx)
  have RA := Lib.hid (fun (wx : World) => rnew_all limit wx)
  obtain ⟨E, hE⟩ : ∃ E : Int, (if goodLim limit then 0 else 2) = E := ⟨_, rfl⟩
  rw [hE] at NA RA
  have T1 : Hid (1 = 1) := Lib.hid rfl
  have T2 : Hid (1 = 1) := Lib.hid rfl
  clear hz hrz hl hE
  go_enter Try.func8, Try.ntmps8
  go_wp2_with (first
    | (go_at_call 9; refine (sane_any _).mono ?_; rintro e w1 ⟨rfl, HB2⟩; have HB := Lib.hid HB2; clear HB2)
    | (go_at_call 11; refine (PL.out _).mono ?_; rintro e wm ⟨rfl, rfl⟩)
    | (go_at_call 12; have T0 := T1.out; clear T0 T1; refine (NA.out _).mono ?_; rintro e w2 ⟨p1', rfl, hb2⟩; have HB' := Lib.hid (btrans HB.out hb2); clear HB hb2; have HB := Lib.hid HB'.out; clear HB')
    | (go_at_call 22; have T0 := T2.out; clear T0 T2; refine (RA.out _).mono ?_; rintro e w3 ⟨p2', rfl, hb3⟩; have HB' := Lib.hid (btrans HB.out hb3); clear HB hb3; have HB := Lib.hid HB'.out; clear HB')
    | (go_at_call 12; refine (sf_new _ (by omega) (by omega) HB.out).mono ?_; rintro e wn ⟨rfl, H2⟩; have H := Lib.hid H2; clear H2)
    | (go_at_call 22; refine (mr_new _ (by omega) (by omega) H.out).mono ?_; rintro e wo ⟨rfl, H2⟩; clear H; have H := Lib.hid H2; clear H2))
  have H0 := H
  clear H
  generalize wn.heap.size = r at *
  generalize w3.heap.size = b at *
  go_loopw [14, 15] (fun v i wr => ∃ (k : Nat) (X : Wh) (l : List Fr) (F G : Nat → Prop), k ≤ cl.length ∧ k ≤ 50 ∧ i = .int .i64 k ∧ Hid (MtSt w wr b r k F G X [] v l)) (fun _ i _ => 50 - (intOf i).toNat)
  case atStart => exact ⟨0, _, [], _, _, by omega, by omega, rfl, Lib.hid ⟨H0.out, (fun f hf => by cases hf), Nat.le_refl _, Nat.le_refl _⟩⟩
  case round =>
    obtain ⟨k, X, l, F, G, hk1, hk2, rfl, HS⟩ := hrel
    clear H0
    have hSk : X.S.length ≤ 1500 := by have := HS.out.short; omega
    have H := Lib.hid HS.out.mr
    obtain ⟨va, vcap, rfl, hvcap⟩ := HS.out.mr.sf.form
    have hlk : l.length ≤ 50 := by have := HS.out.few; omega
    by_cases hlt : k < cl.length ∧ k < 50
    · obtain ⟨hlt1, hlt2⟩ := hlt
      obtain ⟨c, hc⟩ : ∃ c, cl[k]? = some c := ⟨_, List.getElem?_eq_getElem hlt1⟩
      have hwf := HRZ.out c (List.mem_of_getElem? hc)
      obtain ⟨b4, off4, hz4, hx4⟩ : ∃ b4 off4, a0 = some ⟨b4, off4, none⟩ ∧ wr.rangeAt b4 (off4 + k * 18) c.cells ∧ cl.length ≤ cap0 ∧ cap0 ≤ maxLen := by
        rcases HZ.out with ⟨h0, _⟩ | ⟨b4, off4, c4, e, h0, hl4, hc4, hx4⟩
        · rw [h0] at hlt1; simp at hlt1
        · simp only [Value.slice.injEq] at e
          obtain ⟨e1, _, rfl⟩ := e
          exact ⟨b4, off4, e1, (fun j u hu => (HS.out.mr.sf.below.cell (p := ⟨b4, off4 + k * 18 + j, none⟩) (World.block_lt_of_cell? _ _ (hx4 k c hc j u hu))).trans (hx4 k c hc j u hu)), hl4, hc4⟩
      obtain ⟨hx4, hl4, hc4⟩ := hx4
      unfold maxLen at hc4
      subst hz4
      have HX4 := Lib.hid hx4
      have ONE := Lib.hid (one_cp hwf)
      have CH := Lib.hid (fun (wx : World) (hr : Row13 wx (.slice va l.length vcap) l) => choose_any c l (.slice va l.length vcap) wx hwf hr HS.out.ok (by omega))
      obtain ⟨w1k, w1n, w1c, w1s, w1w, _⟩ := hwf
      have PK := Lib.hid (fun (wx : World) => pick_any c.kind 10 wx w1k.lo w1k.hi (by decide) (by decide))
      have rk := pickF_range c.kind 10 (by decide)
      generalize pickF c.kind 10 = q at *
      clear hx4 hc w1k w1n w1c
      unfold maxLen at w1s
      have hq : (q = 0 ∨ q = 1) ∨ (q = 2 ∨ q = 3 ∨ q = 4) ∨ q = 7 ∨ q = 5 ∨ q = 6 ∨ (q = 8 ∨ q = 9) := by omega
      have T1 : Hid (1 = 1) := Lib.hid rfl
      have T2 : Hid (1 = 1) := Lib.hid rfl
      have T3 : Hid (1 = 1) := Lib.hid rfl
      go_upto_region 17 with (first
        | (refine wpList_load_cp rfl _ rfl c b4 (off4 + k * 18) (by rfl) HX4.out ?_)
        | (have T0 := T1.out; clear T0 T1; refine wpList_store_cp rfl _ _ rfl c ONE.out _ (by rfl) (by rfl) (by rfl) ?_; have H2 := H.out.allocC c; clear H; have H := Lib.hid H2; clear H2; generalize hgc : wr.heap.size = gc at *; clear hgc; generalize wr.alloc (.cells c.cells.toArray 44) = wx at *)
        | (refine wpList_load_row rfl 44 _ rfl gc rfl 44 c.cells.toArray (0, 0) _ (H.out.sf.far (gc, cpO c) (List.mem_cons_self ..)).1 Try.underlying44 rfl (size44' c) ?_)
        | (go_at_call 23; refine (CH.out _ (H.out.row13 (by omega))).mono ?_; rintro e wc ⟨⟨x, rfl, hxs, hxo⟩, hbx⟩; have H2 := H.out.same hbx; clear H hbx; have H := Lib.hid H2; clear H2; have ONX := Lib.hid hxo; clear hxo)
        | (have T0 := T2.out; clear T0 T2; refine wpList_store_new rfl _ _ rfl x ONX.out _ (by rfl) (by rfl) (by rfl) ?_; have H2 := H.out.allocF x; clear H; have H := Lib.hid H2; clear H2; have hgx := heap_lt (H.out.sf.far (gc, cpO c) (by simp)).1; obtain ⟨d0, d1, d2, d3, d4⟩ := CpBox.of (H.out.sf.far (gc, cpO c) (by simp)).1; generalize hgx2 : wc.heap.size = gx at *; clear hgx2; generalize wc.alloc (.cells x.cells 35) = wy at *)
        | (go_at_call 11; refine (PK.out _).mono ?_; rintro e wm ⟨rfl, rfl⟩))
      have hHX : Hid ((gx, frO x) ∈ [(gx, frO x), (gc, cpO c)]) := Lib.hid (List.mem_cons_self ..)
      rcases hq with hq | hq | rfl | rfl | rfl | hq
      · as_aux_lemma =>
          go_upto_if 103 with (fail)
          go_cut [103] from 55 to 188 (fun s w' => s = .bool true ∧ w' = wy)
          case first =>
            rcases hq with rfl | rfl
            all_goals
              go_wp2
              go_meet
              exact ⟨rfl, rfl⟩
          case rest =>
          obtain ⟨rfl, rfl⟩ := hcut
          have hmn : ∃ mn : Nat, (if (30 : Int) < (c.s.size : Int) then (30 : Int) else (c.s.size : Int)) = (mn : Int) ∧ mn ≤ 30 ∧ mn ≤ c.s.size := by
            by_cases e : (30 : Int) < (c.s.size : Int)
            · exact ⟨30, by rw [if_pos e]; rfl, by omega, by omega⟩
            · exact ⟨c.s.size, by rw [if_neg e], by omega, by omega⟩
          obtain ⟨mn, hmn1, hmn2, hmn3⟩ := hmn
          have hs2 : (c.s.extract 0 mn).size ≤ 30 := by rw [ByteArray.size_extract]; omega
          obtain ⟨s2, hE⟩ : ∃ s2, c.s.extract 0 mn = s2 := ⟨_, rfl⟩
          rw [hE] at hs2
          have hwn := (X.writeN_le s2).1
          go_wp2_with (first
            | (go_at_call 14; refine (mr_write H.out s2 (by unfold maxLen; omega) (by omega)).mono ?_; rintro e wf ⟨rfl, F2, H2⟩; clear H; have H := Lib.hid H2; clear H2)
            | (go_at_call 24; refine (mr_rwrite H.out s2 (by omega) (by omega)).mono ?_; rintro e wg ⟨rfl, G2, H2⟩; clear H; have H := Lib.hid H2; clear H2)
            | (go_at_call 29; refine (mr_same H.out).mono ?_; rintro e wz ⟨rfl, H2⟩; clear H; have H := Lib.hid H2; clear H2))
          go_roundw
          case rel => exact ⟨k + 1, X.write s2, l, F2, G2, hlt1, hlt2, by simp, Lib.hid (HS.out.write s2 hs2 (H.out.sub (os' := []) (by simp)))⟩
          case measure => simp [intOf]; omega
      · as_aux_lemma =>
          go_upto_if 120 with (fail)
          go_cut [120] from 55 to 188 (fun s w' => s = .bool true ∧ w' = wy)
          case first =>
            rcases hq with rfl | rfl | rfl
            all_goals
              go_wp2
              go_meet
              exact ⟨rfl, rfl⟩
          case rest =>
          obtain ⟨rfl, rfl⟩ := hcut
          have T4 : Hid (1 = 1) := Lib.hid rfl
          have T5 : Hid (1 = 1) := Lib.hid rfl
          have HL : Hid (l.length ≤ 2000) := Lib.hid (by omega)
          obtain ⟨f, hf⟩ : ∃ f, X.nextR (X.nextP c.n c.credit) = f := ⟨_, rfl⟩
          obtain ⟨ty, off, s, fin, hff⟩ : ∃ ty off s fin, f = mkFr ty off s fin := by
            rw [← hf]
            cases X.nextP c.n c.credit with
            | none => exact ⟨_, _, _, _, rfl⟩
            | some p => exact ⟨_, _, _, _, rfl⟩
          have ON : Hid (f.cells.all (·.oneCell') = true) := Lib.hid (by rw [hff]; exact one35 _ _ _ _)
          have SP : Hid (∀ wq : World, Calls Try.prog 26 #[f.val, f.val] wq fun e w' => e = .returned (.bool true) ∧ Below wq.heap.size wq w') := Lib.hid (fun wq => by rw [hff]; exact samePiece_any _ _ _ _ wq)
          have NX : Hid (∀ (wq : World) (F G : Nat → Prop) (os : List (Nat × Obj)) (v : Value), Mr w wq b r F G X X os v l → Calls Try.prog 16 #[.pointer (some ⟨b, 0, none⟩), .int .i64 c.n, .int .i64 c.credit] wq fun e w' => ∃ V, Hid (V = .agg f.cells) ∧ e = .returned (.tuple #[V, .bool (X.nextP c.n c.credit).isSome]) ∧ ∃ F', Mr w w' b r F' G (X.nextX (X.nextP c.n c.credit)) X os v l) := Lib.hid (fun wq F G os v h => (mr_next h c.n c.credit).mono (fun e w' hh => by rw [hf] at hh; exact ⟨_, Lib.hid rfl, hh⟩))
          have RX : Hid (∀ (wq : World) (F G : Nat → Prop) (os : List (Nat × Obj)) (v : Value), Mr w wq b r F G (X.nextX (X.nextP c.n c.credit)) X os v l → Calls Try.prog 25 #[.pointer (some ⟨r, 0, none⟩), .int .i64 c.n, .int .i64 c.credit] wq fun e w' => ∃ V, Hid (V = .agg f.cells) ∧ e = .returned (.tuple #[V, .bool (X.nextP c.n c.credit).isSome]) ∧ ∃ G', Mr w w' b r F G' (X.nextX (X.nextP c.n c.credit)) (X.nextX (X.nextP c.n c.credit)) os v l) := Lib.hid (fun wq F G os v h => (mr_rnext h c.n c.credit).mono (fun e w' hh => by rw [hf] at hh; exact ⟨_, Lib.hid rfl, hh⟩))
          clear hff
          cases hp : X.nextP c.n c.credit with
          | none =>
            rw [hp] at NX RX
            clear hp hf
            go_wp2_with (first
              | (go_at_call 16; refine (NX.out _ _ _ _ _ H.out).mono ?_; rintro e wn ⟨V, HV, rfl, F2, H2⟩; clear H NX d0 d1 d2 d3 d4; have H := Lib.hid H2; clear H2)
              | (have T0 := T4.out; clear T0 T4; refine wpList_store_new rfl _ _ rfl f ON.out _ (by rfl) (by rfl) (by exact HV.out) ?_; have H2 := H.out.allocF f; clear H HV; have H := Lib.hid H2; clear H2; generalize hg1 : wn.heap.size = g1 at *; clear hg1; generalize wn.alloc (.cells f.cells 35) = w5 at *; obtain ⟨d0, d1, d2, d3, d4⟩ := CpBox.of (H.out.sf.far (gc, cpO c) (by simp)).1)
              | (go_at_call 25; refine (RX.out _ _ _ _ _ H.out).mono ?_; rintro e wu ⟨V2, HV2, rfl, G2, H2⟩; clear H RX d0 d1 d2 d3 d4; have H := Lib.hid H2; clear H2)
              | (have T0 := T5.out; clear T0 T5; refine wpList_store_new rfl _ _ rfl f ON.out _ (by rfl) (by rfl) (by exact HV2.out) ?_; have H2 := H.out.allocF f; clear H HV2; have H := Lib.hid H2; clear H2; generalize hg2 : wu.heap.size = g2 at *; clear hg2; generalize wu.alloc (.cells f.cells 35) = w6 at *)
              | (refine wpList_load_own rfl _ rfl f g1 rfl (H.out.fr (by simp)) ?_)
              | (refine wpList_load_own rfl _ rfl f g2 rfl (H.out.fr (by simp)) ?_)
              | (go_at_call 26; refine (SP.out _).mono ?_; rintro e w7 ⟨rfl, hb7⟩; have H2 := H.out.same hb7; clear H hb7; have H := Lib.hid H2; clear H2)
              | (go_at_call 29; refine (mr_same H.out).mono ?_; rintro e wz ⟨rfl, H2⟩; clear H; have H := Lib.hid H2; clear H2))
            go_roundw
            case rel => exact ⟨k + 1, X, l, F2, G2, hlt1, hlt2, by simp, Lib.hid (HS.out.none (H.out.sub (os' := []) (by simp)))⟩
            case measure => simp [intOf]; omega
          | some pp =>
            rw [hp] at NX RX
            have NEXT : Hid (∀ (w' : World) (F' G' : Nat → Prop) (v' : Value), Mr w w' b r F' G' (X.nextX (some pp)) (X.nextX (some pp)) [] v' (l ++ [f]) → MtSt w w' b r (k + 1) F' G' (X.nextX (some pp)) [] v' (l ++ [f])) := Lib.hid (fun w' F' G' v' h2 => by rw [hp] at hf; rw [← hf] at h2 ⊢; exact HS.out.next hk2 hp h2)
            clear hp hf
            generalize X.nextX (some pp) = X2 at *
            go_wp2_with (first
              | (go_at_call 16; refine (NX.out _ _ _ _ _ H.out).mono ?_; rintro e wn ⟨V, HV, rfl, F2, H2⟩; clear H NX d0 d1 d2 d3 d4; have H := Lib.hid H2; clear H2)
              | (have T0 := T4.out; clear T0 T4; refine wpList_store_new rfl _ _ rfl f ON.out _ (by rfl) (by rfl) (by exact HV.out) ?_; have H2 := H.out.allocF f; clear H HV; have H := Lib.hid H2; clear H2; generalize hg1 : wn.heap.size = g1 at *; clear hg1; generalize wn.alloc (.cells f.cells 35) = w5 at *; obtain ⟨d0, d1, d2, d3, d4⟩ := CpBox.of (H.out.sf.far (gc, cpO c) (by simp)).1)
              | (go_at_call 25; refine (RX.out _ _ _ _ _ H.out).mono ?_; rintro e wu ⟨V2, HV2, rfl, G2, H2⟩; clear H RX d0 d1 d2 d3 d4; have H := Lib.hid H2; clear H2)
              | (have T0 := T5.out; clear T0 T5; refine wpList_store_new rfl _ _ rfl f ON.out _ (by rfl) (by rfl) (by exact HV2.out) ?_; have H2 := H.out.allocF f; clear H HV2; have H := Lib.hid H2; clear H2; generalize hg2 : wu.heap.size = g2 at *; clear hg2; generalize wu.alloc (.cells f.cells 35) = w6 at *)
              | (refine wpList_load_own rfl _ rfl f g1 rfl (H.out.fr (by simp)) ?_)
              | (refine wpList_load_own rfl _ rfl f g2 rfl (H.out.fr (by simp)) ?_)
              | (go_at_call 26; refine (SP.out _).mono ?_; rintro e w7 ⟨rfl, hb7⟩; have H2 := H.out.same hb7; clear H hb7; have H := Lib.hid H2; clear H2)
              | (refine wpList_build_fr rfl _ rfl f rfl ?_; have H2 := H.out.allocF f; clear H; have H := Lib.hid H2; clear H2; have HG := Lib.hid (heap_alloc_new w7 (.cells f.cells 35)); generalize w7.alloc (.cells f.cells 35) = wb at H HG ⊢)
              | (refine wpList_append_mr rfl _ _ rfl H.out rfl f ON.out w7.heap.size rfl HG.out HL.out ?_; intro v2 w8 H2; clear H; have H := Lib.hid H2; clear H2)
              | (go_at_call 29; refine (mr_same H.out).mono ?_; rintro e wz ⟨rfl, H2⟩; clear H; have H := Lib.hid H2; clear H2))
            go_roundw
            case rel => exact ⟨k + 1, X2, l ++ [f], F2, G2, hlt1, hlt2, by simp, Lib.hid (NEXT.out _ _ _ _ (H.out.sub (os' := []) (by simp)))⟩
            case measure => simp [intOf]; omega
      · as_aux_lemma =>
          have h3 : c.n.tmod 3 = 0 ∨ c.n.tmod 3 ≠ 0 := by omega
          rcases h3 with h3 | h3
          · have hb : (c.n.tmod 3 == 0) = true := by simp [h3]
            clear h3
            go_wp2_with (first
              | (go_at_call 15; refine (mr_finish H.out).mono ?_; rintro e wf ⟨rfl, F2, H2⟩; obtain ⟨⟨z3, hz3⟩, fr3, H3⟩ := mr_rfin H2; clear H; have H := Lib.hid H3; clear H2 H3)
              | (go_at_call 29; refine (mr_same H.out).mono ?_; rintro e wz ⟨rfl, H2⟩; clear H; have H := Lib.hid H2; clear H2))
            go_roundw
            case rel => exact ⟨k + 1, _, l, F2, _, hlt1, hlt2, by simp, Lib.hid (HS.out.finish (H.out.sub (os' := []) (by simp)))⟩
            case measure => simp [intOf]; omega
          · have hb : (c.n.tmod 3 == 0) = false := by simp [h3]
            clear h3
            go_wp2_with (first
              | (go_at_call 29; refine (mr_same H.out).mono ?_; rintro e wz ⟨rfl, H2⟩; clear H; have H := Lib.hid H2; clear H2))
            go_roundw
            case rel => exact ⟨k + 1, X, l, F, G, hlt1, hlt2, by simp, Lib.hid (HS.out.none (H.out.sub (os' := []) (by simp)))⟩
            case measure => simp [intOf]; omega
      · as_aux_lemma =>
          go_upto_region 36 with (fail)
          go_cut [175] from 55 to 188 (fun s w' => s = .bool false ∧ ∃ F' G', Hid (Mr w w' b r F' G' (X.acked x) (X.acked x) [(gx, frO x), (gc, cpO c)] (.slice va l.length vcap) l))
          case first =>
            have H2 := H.out.drew
            clear H
            have H := Lib.hid H2
            clear H2 d0 d1 d2 d3 d4
            go_region_held3 (fun w' => w'.cell? ⟨gx, 0, none⟩ = some (.int .i64 x.ty) ∧ w'.cell? ⟨gx, 1, none⟩ = some (.int .i64 x.str) ∧ w'.cell? ⟨gx, 2, none⟩ = some (.int .i64 x.off) ∧ w'.cell? ⟨gx, 3, none⟩ = some (.string x.s) ∧ w'.cell? ⟨gx, 4, none⟩ = some (.bool x.fin) ∧ w'.cell? ⟨gx, 5, none⟩ = some (.int .i64 x.max) ∧ w'.cell? ⟨gx, 6, none⟩ = some (.int .i64 x.code) ∧ w'.cell? ⟨gx, 7, none⟩ = some (.bool x.uni) ∧ w'.cell? ⟨gx, 8, none⟩ = some (.int .i64 x.delay) ∧ w'.cell? ⟨gx, 9, none⟩ = some x.ranges ∧ w'.cell? ⟨gx, 10, none⟩ = some (.int .i64 x.seq) ∧ w'.cell? ⟨gx, 11, none⟩ = some (.int .i64 x.retire) ∧ w'.cell? ⟨gx, 12, none⟩ = some (.string x.cid)) (exact frc (H.out.fr hHX.out)) ((first
              | (go_at_call 18; refine (mr_acked H.out x).mono ?_; rintro e wa ⟨rfl, F2, H2⟩; clear H; have H := Lib.hid H2; clear H2)
              | (go_at_call 27; refine (mr_racked H.out x).mono ?_; rintro e wb ⟨rfl, G2, H2⟩; clear H; have H := Lib.hid H2; clear H2)))
            all_goals
              go_wp2
              go_meet
              exact ⟨rfl, _, _, H⟩
          case rest =>
          obtain ⟨rfl, F2, G2, H2⟩ := hcut
          clear H d0 d1 d2 d3 d4
          have H := H2
          clear H2
          go_wp2_with (first
            | (go_at_call 29; refine (mr_same H.out).mono ?_; rintro e wz ⟨rfl, H2⟩; clear H; have H := Lib.hid H2; clear H2))
          go_roundw
          case rel => exact ⟨k + 1, X.acked x, l, F2, G2, hlt1, hlt2, by simp, Lib.hid (HS.out.acked x (H.out.sub (os' := []) (by simp)))⟩
          case measure => simp [intOf]; omega
      · as_aux_lemma =>
          go_upto_region 39 with (fail)
          go_cut [184] from 55 to 188 (fun s w' => s = .bool false ∧ ∃ F' G', Hid (Mr w w' b r F' G' (X.lost x) (X.lost x) [(gx, frO x), (gc, cpO c)] (.slice va l.length vcap) l))
          case first =>
            have H2 := H.out.drew
            clear H
            have H := Lib.hid H2
            clear H2 d0 d1 d2 d3 d4
            go_region_held3 (fun w' => w'.cell? ⟨gx, 0, none⟩ = some (.int .i64 x.ty) ∧ w'.cell? ⟨gx, 1, none⟩ = some (.int .i64 x.str) ∧ w'.cell? ⟨gx, 2, none⟩ = some (.int .i64 x.off) ∧ w'.cell? ⟨gx, 3, none⟩ = some (.string x.s) ∧ w'.cell? ⟨gx, 4, none⟩ = some (.bool x.fin) ∧ w'.cell? ⟨gx, 5, none⟩ = some (.int .i64 x.max) ∧ w'.cell? ⟨gx, 6, none⟩ = some (.int .i64 x.code) ∧ w'.cell? ⟨gx, 7, none⟩ = some (.bool x.uni) ∧ w'.cell? ⟨gx, 8, none⟩ = some (.int .i64 x.delay) ∧ w'.cell? ⟨gx, 9, none⟩ = some x.ranges ∧ w'.cell? ⟨gx, 10, none⟩ = some (.int .i64 x.seq) ∧ w'.cell? ⟨gx, 11, none⟩ = some (.int .i64 x.retire) ∧ w'.cell? ⟨gx, 12, none⟩ = some (.string x.cid)) (exact frc (H.out.fr hHX.out)) ((first
              | (go_at_call 17; refine (mr_lost H.out x).mono ?_; rintro e wa ⟨rfl, F2, H2⟩; clear H; have H := Lib.hid H2; clear H2)
              | (go_at_call 28; refine (mr_rlost H.out x).mono ?_; rintro e wb ⟨rfl, G2, H2⟩; clear H; have H := Lib.hid H2; clear H2)))
            all_goals
              go_wp2
              go_meet
              exact ⟨rfl, _, _, H⟩
          case rest =>
          obtain ⟨rfl, F2, G2, H2⟩ := hcut
          clear H d0 d1 d2 d3 d4
          have H := H2
          clear H2
          go_wp2_with (first
            | (go_at_call 29; refine (mr_same H.out).mono ?_; rintro e wz ⟨rfl, H2⟩; clear H; have H := Lib.hid H2; clear H2))
          go_roundw
          case rel => exact ⟨k + 1, X.lost x, l, F2, G2, hlt1, hlt2, by simp, Lib.hid (HS.out.lost x (H.out.sub (os' := []) (by simp)))⟩
          case measure => simp [intOf]; omega
      · as_aux_lemma =>
          have hHC : Hid ((gc, cpO c) ∈ [(gx, frO x), (gc, cpO c)]) := Lib.hid (by simp)
          have b0 : (q == 0) = false := by rcases hq with rfl | rfl <;> rfl
          have b1 : (q == 1) = false := by rcases hq with rfl | rfl <;> rfl
          have b2 : (q == 2) = false := by rcases hq with rfl | rfl <;> rfl
          have b3 : (q == 3) = false := by rcases hq with rfl | rfl <;> rfl
          have b4 : (q == 4) = false := by rcases hq with rfl | rfl <;> rfl
          have b5 : (q == 5) = false := by rcases hq with rfl | rfl <;> rfl
          have b6 : (q == 6) = false := by rcases hq with rfl | rfl <;> rfl
          have b7 : (q == 7) = false := by rcases hq with rfl | rfl <;> rfl
          clear hq
          have h2 : c.which.tmod 2 = 0 ∨ c.which.tmod 2 ≠ 0 := by omega
          rcases h2 with h2 | h2
          · have hE1 : (c.which.tmod 2 == 0) = true := by simp [h2]
            have hE2 : (c.which.tmod 2 != 0) = false := by simp [h2]
            clear h2
            go_upto_region 15 with (fail)
            go_cut [102] from 55 to 188 (fun s w' => s = .bool false ∧ ∃ F' G', Hid (Mr w w' b r F' G' (X.acked x) (X.acked x) [(gx, frO x), (gc, cpO c)] (.slice va l.length vcap) l))
            case first =>
              have H2 := H.out.drew
              clear H
              have H := Lib.hid H2
              clear H2 d0 d1 d2 d3 d4
              refine wp_region_held_drew (S := MS gc gx c x) (by kernel_rfl) (ms_of H.out) (fun hHeld0 => ?_)
              refine wpAnyH_take (i := 0) (oi := ({ dst := some 75, op := Op.fieldAddr 44 (Operand.tmp 16) 4, type := 0, pos := "law.go:138", after := #[], guard := none } : Oper)) (v := ?_) rfl (by kernel_rfl) (by kernel_rfl) (by kernel_rfl) (fun _ _ _ h => h) (Or.inl ⟨by kernel_rfl, ?_⟩) (by assumption) ?_
              rotate_left
              · (intro w hSw; have hSw1 := hSw.1; clear hSw; go_simp; try (with_reducible rfl))
              try simp only [Act.put, List.setIfInBounds_toArray, List.set_cons_zero, List.set_cons_succ]
              refine wpAnyH_take (i := 1) (oi := ({ dst := some 76, op := Op.load 3 (Operand.tmp 75), type := 3, pos := "law.go:138", after := #[{ on := 0, ground := Ground.data }], guard := none } : Oper)) (v := ?_) rfl (by kernel_rfl) (by kernel_rfl) (by kernel_rfl) (fun _ _ _ h => h) (Or.inl ⟨by kernel_rfl, ?_⟩) (by assumption) ?_
              rotate_left
              · (intro w hSw; have hSw1 := hSw.1; clear hSw; go_simp; try (with_reducible rfl))
              try simp only [Act.put, List.setIfInBounds_toArray, List.set_cons_zero, List.set_cons_succ]
              refine wpAnyH_take (i := 2) (oi := ({ dst := some 77, op := Op.binOp BinOp.rem 3 (Operand.tmp 76) (Operand.const (Value.int IntKind.i64 2)) 3, type := 3, pos := "law.go:138", after := #[{ on := 1, ground := Ground.data }], guard := none } : Oper)) (v := ?_) rfl (by kernel_rfl) (by kernel_rfl) (by kernel_rfl) (fun _ _ _ h => h) (Or.inl ⟨by kernel_rfl, ?_⟩) (by assumption) ?_
              rotate_left
              · (intro w hSw; have hSw1 := hSw.1; clear hSw; go_simp; try (with_reducible rfl))
              try simp only [Act.put, List.setIfInBounds_toArray, List.set_cons_zero, List.set_cons_succ]
              refine wpAnyH_take (i := 3) (oi := ({ dst := some 78, op := Op.binOp BinOp.eql 3 (Operand.tmp 77) (Operand.const (Value.int IntKind.i64 0)) 3, type := 4, pos := "law.go:138", after := #[{ on := 2, ground := Ground.data }], guard := none } : Oper)) (v := ?_) rfl (by kernel_rfl) (by kernel_rfl) (by kernel_rfl) (fun _ _ _ h => h) (Or.inl ⟨by kernel_rfl, ?_⟩) (by assumption) ?_
              rotate_left
              · (intro w hSw; have hSw1 := hSw.1; clear hSw; go_simp; try (with_reducible rfl))
              try simp only [Act.put, List.setIfInBounds_toArray, List.set_cons_zero, List.set_cons_succ]
              refine wpAnyH_take (i := 4) (oi := ({ dst := some 79, op := Op.move (Operand.tmp 78), type := 4, pos := "law.go:138", after := #[{ on := 3, ground := Ground.data }], guard := none } : Oper)) (v := ?_) rfl (by kernel_rfl) (by kernel_rfl) (by kernel_rfl) (fun _ _ _ h => h) (Or.inl ⟨by kernel_rfl, ?_⟩) (by assumption) ?_
              rotate_left
              · (intro w hSw; have hSw1 := hSw.1; clear hSw; go_simp; try (with_reducible rfl))
              try simp only [Act.put, List.setIfInBounds_toArray, List.set_cons_zero, List.set_cons_succ]
              refine wpAnyH_take (i := 5) (oi := ({ dst := some 80, op := Op.move (Operand.tmp 10), type := 27, pos := "law.go:138", after := #[{ on := 4, ground := Ground.guard }], guard := some (4, true) } : Oper)) (v := ?_) rfl (by kernel_rfl) (by kernel_rfl) (by kernel_rfl) (fun _ _ _ h => h) (Or.inl ⟨by kernel_rfl, ?_⟩) (by assumption) ?_
              rotate_left
              · (intro w hSw; have hSw1 := hSw.1; clear hSw; go_simp; try (with_reducible rfl))
              try simp only [Act.put, List.setIfInBounds_toArray, List.set_cons_zero, List.set_cons_succ]
              refine wpAnyH_take (i := 6) (oi := ({ dst := some 81, op := Op.load 35 (Operand.tmp 17), type := 35, pos := "law.go:138", after := #[{ on := 4, ground := Ground.guard }], guard := some (4, true) } : Oper)) (v := ?_) rfl (by kernel_rfl) (by kernel_rfl) (by kernel_rfl) (fun _ _ _ h => h) (Or.inl ⟨by kernel_rfl, ?_⟩) (by assumption) ?_
              rotate_left
              · (intro w hSw; obtain ⟨_, y0, y1, y2, y3, y4, y5, y6, y7, y8, y9, y10, y11, y12⟩ := hSw; go_simp; try (with_reducible rfl))
              try simp only [Act.put, List.setIfInBounds_toArray, List.set_cons_zero, List.set_cons_succ]
              refine wpAnyH_take (i := 8) (oi := ({ dst := some 83, op := Op.move (Operand.tmp 12), type := 48, pos := "law.go:138", after := #[{ on := 4, ground := Ground.guard }], guard := some (4, true) } : Oper)) (v := ?_) rfl (by kernel_rfl) (by kernel_rfl) (by kernel_rfl) (fun _ _ _ h => h) (Or.inl ⟨by kernel_rfl, ?_⟩) (by assumption) ?_
              rotate_left
              · (intro w hSw; have hSw1 := hSw.1; clear hSw; go_simp; try (with_reducible rfl))
              try simp only [Act.put, List.setIfInBounds_toArray, List.set_cons_zero, List.set_cons_succ]
              refine wpAnyH_take (i := 9) (oi := ({ dst := some 84, op := Op.load 35 (Operand.tmp 17), type := 35, pos := "law.go:138", after := #[{ on := 4, ground := Ground.guard }], guard := some (4, true) } : Oper)) (v := ?_) rfl (by kernel_rfl) (by kernel_rfl) (by kernel_rfl) (fun _ _ _ h => h) (Or.inl ⟨by kernel_rfl, ?_⟩) (by assumption) ?_
              rotate_left
              · (intro w hSw; obtain ⟨_, y0, y1, y2, y3, y4, y5, y6, y7, y8, y9, y10, y11, y12⟩ := hSw; go_simp; try (with_reducible rfl))
              try simp only [Act.put, List.setIfInBounds_toArray, List.set_cons_zero, List.set_cons_succ]
              refine wpAnyH_ready (rs := [7]) (by kernel_rfl) (by simp) ?_
              refine AllReadyH.cons (o := ({ dst := some 82, op := Op.call { callee := Callee.value (Operand.func 18), args := #[Operand.tmp 80, Operand.tmp 81], argTypes := #[27, 35] }, type := 28, pos := "law.go:138", after := #[{ on := 5, ground := Ground.data }, { on := 6, ground := Ground.data }, { on := 4, ground := Ground.chain }, { on := 4, ground := Ground.guard }], guard := some (4, true) } : Oper)) rfl (fun K hK => ?_) AllReadyH.nil
              go_simp
              (go_at_call 18; refine (mr_acked H.out x).mono ?_; rintro e wa ⟨rfl, F2, H2⟩; clear H; have H := Lib.hid H2; clear H2)
              try (go_wp2_with fail)
              refine hK.out _ _ (ms_of H.out) (fun hHeld => ?_)
              clear hK K
              refine wpAnyH_ready (rs := [10]) (by kernel_rfl) (by simp) ?_
              refine AllReadyH.cons (o := ({ dst := some 85, op := Op.call { callee := Callee.value (Operand.func 27), args := #[Operand.tmp 83, Operand.tmp 84], argTypes := #[48, 35] }, type := 28, pos := "law.go:138", after := #[{ on := 8, ground := Ground.data }, { on := 9, ground := Ground.data }, { on := 7, ground := Ground.chain }, { on := 4, ground := Ground.guard }], guard := some (4, true) } : Oper)) rfl (fun K hK => ?_) AllReadyH.nil
              go_simp
              (go_at_call 27; refine (mr_racked H.out x).mono ?_; rintro e wb ⟨rfl, G2, H2⟩; clear H; have H := Lib.hid H2; clear H2)
              try (go_wp2_with fail)
              refine hK.out _ _ (ms_of H.out) (fun hHeld => ?_)
              clear hK K
              refine wpAnyH_take (i := 11) (oi := ({ dst := some 86, op := Op.binOp BinOp.neq 28 (Operand.tmp 82) (Operand.tmp 85) 28, type := 4, pos := "law.go:138", after := #[{ on := 7, ground := Ground.data }, { on := 10, ground := Ground.data }, { on := 4, ground := Ground.guard }], guard := some (4, true) } : Oper)) (v := ?_) rfl (by kernel_rfl) (by kernel_rfl) (by kernel_rfl) (fun _ _ _ h => h) (Or.inl ⟨by kernel_rfl, ?_⟩) (by assumption) ?_
              rotate_left
              · (intro w hSw; have hSw1 := hSw.1; clear hSw; go_simp; try (with_reducible rfl))
              try simp only [Act.put, List.setIfInBounds_toArray, List.set_cons_zero, List.set_cons_succ]
              refine wpAnyH_take (i := 12) (oi := ({ dst := some 87, op := Op.pick (Operand.tmp 79) (Operand.tmp 86) (Operand.const (Value.bool false)), type := 4, pos := "law.go:138", after := #[{ on := 4, ground := Ground.data }, { on := 11, ground := Ground.data }], guard := none } : Oper)) (v := ?_) rfl (by kernel_rfl) (by kernel_rfl) (by kernel_rfl) (fun _ _ _ h => h) (Or.inl ⟨by kernel_rfl, ?_⟩) (by assumption) ?_
              rotate_left
              · (intro w hSw; have hSw1 := hSw.1; clear hSw; go_simp; try (with_reducible rfl))
              try simp only [Act.put, List.setIfInBounds_toArray, List.set_cons_zero, List.set_cons_succ]
              refine wpAnyH_take (i := 13) (oi := ({ dst := some 88, op := Op.move (Operand.tmp 87), type := 4, pos := "law.go:138", after := #[{ on := 12, ground := Ground.data }, { on := 10, ground := Ground.chain }], guard := none } : Oper)) (v := ?_) rfl (by kernel_rfl) (by kernel_rfl) (by kernel_rfl) (fun _ _ _ h => h) (Or.inl ⟨by kernel_rfl, ?_⟩) (by assumption) ?_
              rotate_left
              · (intro w hSw; have hSw1 := hSw.1; clear hSw; go_simp; try (with_reducible rfl))
              try simp only [Act.put, List.setIfInBounds_toArray, List.set_cons_zero, List.set_cons_succ]
              refine wpAnyH_take (i := 14) (oi := ({ dst := some 89, op := Op.fieldAddr 44 (Operand.tmp 16) 4, type := 0, pos := "law.go:138", after := #[{ on := 13, ground := Ground.guard }], guard := some (13, false) } : Oper)) (v := ?_) rfl (by kernel_rfl) (by kernel_rfl) (by kernel_rfl) (fun _ _ _ h => h) (Or.inl ⟨by kernel_rfl, ?_⟩) (by assumption) ?_
              rotate_left
              · (intro w hSw; have hSw1 := hSw.1; clear hSw; go_simp; try (with_reducible rfl))
              try simp only [Act.put, List.setIfInBounds_toArray, List.set_cons_zero, List.set_cons_succ]
              refine wpAnyH_take (i := 15) (oi := ({ dst := some 90, op := Op.load 3 (Operand.tmp 89), type := 3, pos := "law.go:138", after := #[{ on := 14, ground := Ground.data }, { on := 13, ground := Ground.guard }], guard := some (13, false) } : Oper)) (v := ?_) rfl (by kernel_rfl) (by kernel_rfl) (by kernel_rfl) (fun _ _ _ h => h) (Or.inl ⟨by kernel_rfl, ?_⟩) (by assumption) ?_
              rotate_left
              · (intro w hSw; have hSw1 := hSw.1; clear hSw; go_simp; try (with_reducible rfl))
              try simp only [Act.put, List.setIfInBounds_toArray, List.set_cons_zero, List.set_cons_succ]
              refine wpAnyH_take (i := 16) (oi := ({ dst := some 91, op := Op.binOp BinOp.rem 3 (Operand.tmp 90) (Operand.const (Value.int IntKind.i64 2)) 3, type := 3, pos := "law.go:138", after := #[{ on := 15, ground := Ground.data }, { on := 13, ground := Ground.guard }], guard := some (13, false) } : Oper)) (v := ?_) rfl (by kernel_rfl) (by kernel_rfl) (by kernel_rfl) (fun _ _ _ h => h) (Or.inl ⟨by kernel_rfl, ?_⟩) (by assumption) ?_
              rotate_left
              · (intro w hSw; have hSw1 := hSw.1; clear hSw; go_simp; try (with_reducible rfl))
              try simp only [Act.put, List.setIfInBounds_toArray, List.set_cons_zero, List.set_cons_succ]
              refine wpAnyH_take (i := 17) (oi := ({ dst := some 92, op := Op.binOp BinOp.neq 3 (Operand.tmp 91) (Operand.const (Value.int IntKind.i64 0)) 3, type := 4, pos := "law.go:138", after := #[{ on := 16, ground := Ground.data }, { on := 13, ground := Ground.guard }], guard := some (13, false) } : Oper)) (v := ?_) rfl (by kernel_rfl) (by kernel_rfl) (by kernel_rfl) (fun _ _ _ h => h) (Or.inl ⟨by kernel_rfl, ?_⟩) (by assumption) ?_
              rotate_left
              · (intro w hSw; have hSw1 := hSw.1; clear hSw; go_simp; try (with_reducible rfl))
              try simp only [Act.put, List.setIfInBounds_toArray, List.set_cons_zero, List.set_cons_succ]
              refine wpAnyH_take (i := 18) (oi := ({ dst := some 93, op := Op.move (Operand.tmp 92), type := 4, pos := "law.go:138", after := #[{ on := 17, ground := Ground.data }, { on := 13, ground := Ground.chain }, { on := 13, ground := Ground.guard }], guard := some (13, false) } : Oper)) (v := ?_) rfl (by kernel_rfl) (by kernel_rfl) (by kernel_rfl) (fun _ _ _ h => h) (Or.inl ⟨by kernel_rfl, ?_⟩) (by assumption) ?_
              rotate_left
              · (intro w hSw; have hSw1 := hSw.1; clear hSw; go_simp; try (with_reducible rfl))
              try simp only [Act.put, List.setIfInBounds_toArray, List.set_cons_zero, List.set_cons_succ]
              refine wpAnyH_take (i := 19) (oi := ({ dst := some 94, op := Op.move (Operand.tmp 10), type := 27, pos := "law.go:138", after := #[{ on := 18, ground := Ground.guard }], guard := some (18, true) } : Oper)) (v := undef) rfl (by kernel_rfl) (by kernel_rfl) (by kernel_rfl) (fun _ _ _ h => h) (Or.inr ⟨by kernel_rfl, rfl⟩) (by assumption) ?_
              try simp only [Act.put, List.setIfInBounds_toArray, List.set_cons_zero, List.set_cons_succ]
              refine wpAnyH_take (i := 20) (oi := ({ dst := some 95, op := Op.load 35 (Operand.tmp 17), type := 35, pos := "law.go:138", after := #[{ on := 18, ground := Ground.guard }], guard := some (18, true) } : Oper)) (v := undef) rfl (by kernel_rfl) (by kernel_rfl) (by kernel_rfl) (fun _ _ _ h => h) (Or.inr ⟨by kernel_rfl, rfl⟩) (by assumption) ?_
              try simp only [Act.put, List.setIfInBounds_toArray, List.set_cons_zero, List.set_cons_succ]
              refine wpAnyH_take (i := 22) (oi := ({ dst := some 97, op := Op.move (Operand.tmp 12), type := 48, pos := "law.go:138", after := #[{ on := 18, ground := Ground.guard }], guard := some (18, true) } : Oper)) (v := undef) rfl (by kernel_rfl) (by kernel_rfl) (by kernel_rfl) (fun _ _ _ h => h) (Or.inr ⟨by kernel_rfl, rfl⟩) (by assumption) ?_
              try simp only [Act.put, List.setIfInBounds_toArray, List.set_cons_zero, List.set_cons_succ]
              refine wpAnyH_take (i := 23) (oi := ({ dst := some 98, op := Op.load 35 (Operand.tmp 17), type := 35, pos := "law.go:138", after := #[{ on := 18, ground := Ground.guard }], guard := some (18, true) } : Oper)) (v := undef) rfl (by kernel_rfl) (by kernel_rfl) (by kernel_rfl) (fun _ _ _ h => h) (Or.inr ⟨by kernel_rfl, rfl⟩) (by assumption) ?_
              try simp only [Act.put, List.setIfInBounds_toArray, List.set_cons_zero, List.set_cons_succ]
              refine wpAnyH_take (i := 21) (oi := ({ dst := some 96, op := Op.call { callee := Callee.value (Operand.func 17), args := #[Operand.tmp 94, Operand.tmp 95], argTypes := #[27, 35] }, type := 28, pos := "law.go:138", after := #[{ on := 19, ground := Ground.data }, { on := 20, ground := Ground.data }, { on := 18, ground := Ground.chain }, { on := 18, ground := Ground.guard }], guard := some (18, true) } : Oper)) (v := undef) rfl (by kernel_rfl) (by kernel_rfl) (by kernel_rfl) (fun _ _ _ h => h) (Or.inr ⟨by kernel_rfl, rfl⟩) (by assumption) ?_
              try simp only [Act.put, List.setIfInBounds_toArray, List.set_cons_zero, List.set_cons_succ]
              refine wpAnyH_take (i := 24) (oi := ({ dst := some 99, op := Op.call { callee := Callee.value (Operand.func 28), args := #[Operand.tmp 97, Operand.tmp 98], argTypes := #[48, 35] }, type := 28, pos := "law.go:138", after := #[{ on := 22, ground := Ground.data }, { on := 23, ground := Ground.data }, { on := 21, ground := Ground.chain }, { on := 18, ground := Ground.guard }], guard := some (18, true) } : Oper)) (v := undef) rfl (by kernel_rfl) (by kernel_rfl) (by kernel_rfl) (fun _ _ _ h => h) (Or.inr ⟨by kernel_rfl, rfl⟩) (by assumption) ?_
              try simp only [Act.put, List.setIfInBounds_toArray, List.set_cons_zero, List.set_cons_succ]
              refine wpAnyH_take (i := 25) (oi := ({ dst := some 100, op := Op.binOp BinOp.neq 28 (Operand.tmp 96) (Operand.tmp 99) 28, type := 4, pos := "law.go:138", after := #[{ on := 21, ground := Ground.data }, { on := 24, ground := Ground.data }, { on := 18, ground := Ground.guard }], guard := some (18, true) } : Oper)) (v := undef) rfl (by kernel_rfl) (by kernel_rfl) (by kernel_rfl) (fun _ _ _ h => h) (Or.inr ⟨by kernel_rfl, rfl⟩) (by assumption) ?_
              try simp only [Act.put, List.setIfInBounds_toArray, List.set_cons_zero, List.set_cons_succ]
              refine wpAnyH_take (i := 26) (oi := ({ dst := some 101, op := Op.pick (Operand.tmp 93) (Operand.tmp 100) (Operand.const (Value.bool false)), type := 4, pos := "law.go:138", after := #[{ on := 18, ground := Ground.data }, { on := 25, ground := Ground.data }, { on := 13, ground := Ground.guard }], guard := some (13, false) } : Oper)) (v := ?_) rfl (by kernel_rfl) (by kernel_rfl) (by kernel_rfl) (fun _ _ _ h => h) (Or.inl ⟨by kernel_rfl, ?_⟩) (by assumption) ?_
              rotate_left
              · (intro w hSw; have hSw1 := hSw.1; clear hSw; go_simp; try (with_reducible rfl))
              try simp only [Act.put, List.setIfInBounds_toArray, List.set_cons_zero, List.set_cons_succ]
              refine wpAnyH_take (i := 27) (oi := ({ dst := some 102, op := Op.pick (Operand.tmp 88) (Operand.const (Value.bool true)) (Operand.tmp 101), type := 4, pos := "law.go:138", after := #[{ on := 13, ground := Ground.data }, { on := 26, ground := Ground.data }], guard := none } : Oper)) (v := ?_) rfl (by kernel_rfl) (by kernel_rfl) (by kernel_rfl) (fun _ _ _ h => h) (Or.inl ⟨by kernel_rfl, ?_⟩) (by assumption) ?_
              rotate_left
              · (intro w hSw; have hSw1 := hSw.1; clear hSw; go_simp; try (with_reducible rfl))
              try simp only [Act.put, List.setIfInBounds_toArray, List.set_cons_zero, List.set_cons_succ]
              refine wpAnyH_done (by kernel_rfl) ?_ _
              go_wp2
              go_meet
              exact ⟨rfl, _, _, H⟩
            case rest =>
            obtain ⟨rfl, F2, G2, H2⟩ := hcut
            clear H d0 d1 d2 d3 d4
            have H := H2
            clear H2
            go_wp2_with (first
              | (go_at_call 29; refine (mr_same H.out).mono ?_; rintro e wz ⟨rfl, H2⟩; clear H; have H := Lib.hid H2; clear H2))
            go_roundw
            case rel => exact ⟨k + 1, X.acked x, l, F2, G2, hlt1, hlt2, by simp, Lib.hid (HS.out.acked x (H.out.sub (os' := []) (by simp)))⟩
            case measure => simp [intOf]; omega
          · have hE1 : (c.which.tmod 2 == 0) = false := by simp [h2]
            have hE2 : (c.which.tmod 2 != 0) = true := by simp [h2]
            clear h2
            go_upto_region 15 with (fail)
            go_cut [102] from 55 to 188 (fun s w' => s = .bool false ∧ ∃ F' G', Hid (Mr w w' b r F' G' (X.lost x) (X.lost x) [(gx, frO x), (gc, cpO c)] (.slice va l.length vcap) l))
            case first =>
              have H2 := H.out.drew
              clear H
              have H := Lib.hid H2
              clear H2 d0 d1 d2 d3 d4
              refine wp_region_held_drew (S := MS gc gx c x) (by kernel_rfl) (ms_of H.out) (fun hHeld0 => ?_)
              refine wpAnyH_take (i := 0) (oi := ({ dst := some 75, op := Op.fieldAddr 44 (Operand.tmp 16) 4, type := 0, pos := "law.go:138", after := #[], guard := none } : Oper)) (v := ?_) rfl (by kernel_rfl) (by kernel_rfl) (by kernel_rfl) (fun _ _ _ h => h) (Or.inl ⟨by kernel_rfl, ?_⟩) (by assumption) ?_
              rotate_left
              · (intro w hSw; have hSw1 := hSw.1; clear hSw; go_simp; try (with_reducible rfl))
              try simp only [Act.put, List.setIfInBounds_toArray, List.set_cons_zero, List.set_cons_succ]
              refine wpAnyH_take (i := 1) (oi := ({ dst := some 76, op := Op.load 3 (Operand.tmp 75), type := 3, pos := "law.go:138", after := #[{ on := 0, ground := Ground.data }], guard := none } : Oper)) (v := ?_) rfl (by kernel_rfl) (by kernel_rfl) (by kernel_rfl) (fun _ _ _ h => h) (Or.inl ⟨by kernel_rfl, ?_⟩) (by assumption) ?_
              rotate_left
              · (intro w hSw; have hSw1 := hSw.1; clear hSw; go_simp; try (with_reducible rfl))
              try simp only [Act.put, List.setIfInBounds_toArray, List.set_cons_zero, List.set_cons_succ]
              refine wpAnyH_take (i := 2) (oi := ({ dst := some 77, op := Op.binOp BinOp.rem 3 (Operand.tmp 76) (Operand.const (Value.int IntKind.i64 2)) 3, type := 3, pos := "law.go:138", after := #[{ on := 1, ground := Ground.data }], guard := none } : Oper)) (v := ?_) rfl (by kernel_rfl) (by kernel_rfl) (by kernel_rfl) (fun _ _ _ h => h) (Or.inl ⟨by kernel_rfl, ?_⟩) (by assumption) ?_
              rotate_left
              · (intro w hSw; have hSw1 := hSw.1; clear hSw; go_simp; try (with_reducible rfl))
              try simp only [Act.put, List.setIfInBounds_toArray, List.set_cons_zero, List.set_cons_succ]
              refine wpAnyH_take (i := 3) (oi := ({ dst := some 78, op := Op.binOp BinOp.eql 3 (Operand.tmp 77) (Operand.const (Value.int IntKind.i64 0)) 3, type := 4, pos := "law.go:138", after := #[{ on := 2, ground := Ground.data }], guard := none } : Oper)) (v := ?_) rfl (by kernel_rfl) (by kernel_rfl) (by kernel_rfl) (fun _ _ _ h => h) (Or.inl ⟨by kernel_rfl, ?_⟩) (by assumption) ?_
              rotate_left
              · (intro w hSw; have hSw1 := hSw.1; clear hSw; go_simp; try (with_reducible rfl))
              try simp only [Act.put, List.setIfInBounds_toArray, List.set_cons_zero, List.set_cons_succ]
              refine wpAnyH_take (i := 4) (oi := ({ dst := some 79, op := Op.move (Operand.tmp 78), type := 4, pos := "law.go:138", after := #[{ on := 3, ground := Ground.data }], guard := none } : Oper)) (v := ?_) rfl (by kernel_rfl) (by kernel_rfl) (by kernel_rfl) (fun _ _ _ h => h) (Or.inl ⟨by kernel_rfl, ?_⟩) (by assumption) ?_
              rotate_left
              · (intro w hSw; have hSw1 := hSw.1; clear hSw; go_simp; try (with_reducible rfl))
              try simp only [Act.put, List.setIfInBounds_toArray, List.set_cons_zero, List.set_cons_succ]
              refine wpAnyH_take (i := 5) (oi := ({ dst := some 80, op := Op.move (Operand.tmp 10), type := 27, pos := "law.go:138", after := #[{ on := 4, ground := Ground.guard }], guard := some (4, true) } : Oper)) (v := undef) rfl (by kernel_rfl) (by kernel_rfl) (by kernel_rfl) (fun _ _ _ h => h) (Or.inr ⟨by kernel_rfl, rfl⟩) (by assumption) ?_
              try simp only [Act.put, List.setIfInBounds_toArray, List.set_cons_zero, List.set_cons_succ]
              refine wpAnyH_take (i := 6) (oi := ({ dst := some 81, op := Op.load 35 (Operand.tmp 17), type := 35, pos := "law.go:138", after := #[{ on := 4, ground := Ground.guard }], guard := some (4, true) } : Oper)) (v := undef) rfl (by kernel_rfl) (by kernel_rfl) (by kernel_rfl) (fun _ _ _ h => h) (Or.inr ⟨by kernel_rfl, rfl⟩) (by assumption) ?_
              try simp only [Act.put, List.setIfInBounds_toArray, List.set_cons_zero, List.set_cons_succ]
              refine wpAnyH_take (i := 8) (oi := ({ dst := some 83, op := Op.move (Operand.tmp 12), type := 48, pos := "law.go:138", after := #[{ on := 4, ground := Ground.guard }], guard := some (4, true) } : Oper)) (v := undef) rfl (by kernel_rfl) (by kernel_rfl) (by kernel_rfl) (fun _ _ _ h => h) (Or.inr ⟨by kernel_rfl, rfl⟩) (by assumption) ?_
              try simp only [Act.put, List.setIfInBounds_toArray, List.set_cons_zero, List.set_cons_succ]
              refine wpAnyH_take (i := 9) (oi := ({ dst := some 84, op := Op.load 35 (Operand.tmp 17), type := 35, pos := "law.go:138", after := #[{ on := 4, ground := Ground.guard }], guard := some (4, true) } : Oper)) (v := undef) rfl (by kernel_rfl) (by kernel_rfl) (by kernel_rfl) (fun _ _ _ h => h) (Or.inr ⟨by kernel_rfl, rfl⟩) (by assumption) ?_
              try simp only [Act.put, List.setIfInBounds_toArray, List.set_cons_zero, List.set_cons_succ]
              refine wpAnyH_take (i := 7) (oi := ({ dst := some 82, op := Op.call { callee := Callee.value (Operand.func 18), args := #[Operand.tmp 80, Operand.tmp 81], argTypes := #[27, 35] }, type := 28, pos := "law.go:138", after := #[{ on := 5, ground := Ground.data }, { on := 6, ground := Ground.data }, { on := 4, ground := Ground.chain }, { on := 4, ground := Ground.guard }], guard := some (4, true) } : Oper)) (v := undef) rfl (by kernel_rfl) (by kernel_rfl) (by kernel_rfl) (fun _ _ _ h => h) (Or.inr ⟨by kernel_rfl, rfl⟩) (by assumption) ?_
              try simp only [Act.put, List.setIfInBounds_toArray, List.set_cons_zero, List.set_cons_succ]
              refine wpAnyH_take (i := 10) (oi := ({ dst := some 85, op := Op.call { callee := Callee.value (Operand.func 27), args := #[Operand.tmp 83, Operand.tmp 84], argTypes := #[48, 35] }, type := 28, pos := "law.go:138", after := #[{ on := 8, ground := Ground.data }, { on := 9, ground := Ground.data }, { on := 7, ground := Ground.chain }, { on := 4, ground := Ground.guard }], guard := some (4, true) } : Oper)) (v := undef) rfl (by kernel_rfl) (by kernel_rfl) (by kernel_rfl) (fun _ _ _ h => h) (Or.inr ⟨by kernel_rfl, rfl⟩) (by assumption) ?_
              try simp only [Act.put, List.setIfInBounds_toArray, List.set_cons_zero, List.set_cons_succ]
              refine wpAnyH_take (i := 11) (oi := ({ dst := some 86, op := Op.binOp BinOp.neq 28 (Operand.tmp 82) (Operand.tmp 85) 28, type := 4, pos := "law.go:138", after := #[{ on := 7, ground := Ground.data }, { on := 10, ground := Ground.data }, { on := 4, ground := Ground.guard }], guard := some (4, true) } : Oper)) (v := undef) rfl (by kernel_rfl) (by kernel_rfl) (by kernel_rfl) (fun _ _ _ h => h) (Or.inr ⟨by kernel_rfl, rfl⟩) (by assumption) ?_
              try simp only [Act.put, List.setIfInBounds_toArray, List.set_cons_zero, List.set_cons_succ]
              refine wpAnyH_take (i := 12) (oi := ({ dst := some 87, op := Op.pick (Operand.tmp 79) (Operand.tmp 86) (Operand.const (Value.bool false)), type := 4, pos := "law.go:138", after := #[{ on := 4, ground := Ground.data }, { on := 11, ground := Ground.data }], guard := none } : Oper)) (v := ?_) rfl (by kernel_rfl) (by kernel_rfl) (by kernel_rfl) (fun _ _ _ h => h) (Or.inl ⟨by kernel_rfl, ?_⟩) (by assumption) ?_
              rotate_left
              · (intro w hSw; have hSw1 := hSw.1; clear hSw; go_simp; try (with_reducible rfl))
              try simp only [Act.put, List.setIfInBounds_toArray, List.set_cons_zero, List.set_cons_succ]
              refine wpAnyH_take (i := 13) (oi := ({ dst := some 88, op := Op.move (Operand.tmp 87), type := 4, pos := "law.go:138", after := #[{ on := 12, ground := Ground.data }, { on := 10, ground := Ground.chain }], guard := none } : Oper)) (v := ?_) rfl (by kernel_rfl) (by kernel_rfl) (by kernel_rfl) (fun _ _ _ h => h) (Or.inl ⟨by kernel_rfl, ?_⟩) (by assumption) ?_
              rotate_left
              · (intro w hSw; have hSw1 := hSw.1; clear hSw; go_simp; try (with_reducible rfl))
              try simp only [Act.put, List.setIfInBounds_toArray, List.set_cons_zero, List.set_cons_succ]
              refine wpAnyH_take (i := 14) (oi := ({ dst := some 89, op := Op.fieldAddr 44 (Operand.tmp 16) 4, type := 0, pos := "law.go:138", after := #[{ on := 13, ground := Ground.guard }], guard := some (13, false) } : Oper)) (v := ?_) rfl (by kernel_rfl) (by kernel_rfl) (by kernel_rfl) (fun _ _ _ h => h) (Or.inl ⟨by kernel_rfl, ?_⟩) (by assumption) ?_
              rotate_left
              · (intro w hSw; have hSw1 := hSw.1; clear hSw; go_simp; try (with_reducible rfl))
              try simp only [Act.put, List.setIfInBounds_toArray, List.set_cons_zero, List.set_cons_succ]
              refine wpAnyH_take (i := 15) (oi := ({ dst := some 90, op := Op.load 3 (Operand.tmp 89), type := 3, pos := "law.go:138", after := #[{ on := 14, ground := Ground.data }, { on := 13, ground := Ground.guard }], guard := some (13, false) } : Oper)) (v := ?_) rfl (by kernel_rfl) (by kernel_rfl) (by kernel_rfl) (fun _ _ _ h => h) (Or.inl ⟨by kernel_rfl, ?_⟩) (by assumption) ?_
              rotate_left
              · (intro w hSw; have hSw1 := hSw.1; clear hSw; go_simp; try (with_reducible rfl))
              try simp only [Act.put, List.setIfInBounds_toArray, List.set_cons_zero, List.set_cons_succ]
              refine wpAnyH_take (i := 16) (oi := ({ dst := some 91, op := Op.binOp BinOp.rem 3 (Operand.tmp 90) (Operand.const (Value.int IntKind.i64 2)) 3, type := 3, pos := "law.go:138", after := #[{ on := 15, ground := Ground.data }, { on := 13, ground := Ground.guard }], guard := some (13, false) } : Oper)) (v := ?_) rfl (by kernel_rfl) (by kernel_rfl) (by kernel_rfl) (fun _ _ _ h => h) (Or.inl ⟨by kernel_rfl, ?_⟩) (by assumption) ?_
              rotate_left
              · (intro w hSw; have hSw1 := hSw.1; clear hSw; go_simp; try (with_reducible rfl))
              try simp only [Act.put, List.setIfInBounds_toArray, List.set_cons_zero, List.set_cons_succ]
              refine wpAnyH_take (i := 17) (oi := ({ dst := some 92, op := Op.binOp BinOp.neq 3 (Operand.tmp 91) (Operand.const (Value.int IntKind.i64 0)) 3, type := 4, pos := "law.go:138", after := #[{ on := 16, ground := Ground.data }, { on := 13, ground := Ground.guard }], guard := some (13, false) } : Oper)) (v := ?_) rfl (by kernel_rfl) (by kernel_rfl) (by kernel_rfl) (fun _ _ _ h => h) (Or.inl ⟨by kernel_rfl, ?_⟩) (by assumption) ?_
              rotate_left
              · (intro w hSw; have hSw1 := hSw.1; clear hSw; go_simp; try (with_reducible rfl))
              try simp only [Act.put, List.setIfInBounds_toArray, List.set_cons_zero, List.set_cons_succ]
              refine wpAnyH_take (i := 18) (oi := ({ dst := some 93, op := Op.move (Operand.tmp 92), type := 4, pos := "law.go:138", after := #[{ on := 17, ground := Ground.data }, { on := 13, ground := Ground.chain }, { on := 13, ground := Ground.guard }], guard := some (13, false) } : Oper)) (v := ?_) rfl (by kernel_rfl) (by kernel_rfl) (by kernel_rfl) (fun _ _ _ h => h) (Or.inl ⟨by kernel_rfl, ?_⟩) (by assumption) ?_
              rotate_left
              · (intro w hSw; have hSw1 := hSw.1; clear hSw; go_simp; try (with_reducible rfl))
              try simp only [Act.put, List.setIfInBounds_toArray, List.set_cons_zero, List.set_cons_succ]
              refine wpAnyH_take (i := 19) (oi := ({ dst := some 94, op := Op.move (Operand.tmp 10), type := 27, pos := "law.go:138", after := #[{ on := 18, ground := Ground.guard }], guard := some (18, true) } : Oper)) (v := ?_) rfl (by kernel_rfl) (by kernel_rfl) (by kernel_rfl) (fun _ _ _ h => h) (Or.inl ⟨by kernel_rfl, ?_⟩) (by assumption) ?_
              rotate_left
              · (intro w hSw; have hSw1 := hSw.1; clear hSw; go_simp; try (with_reducible rfl))
              try simp only [Act.put, List.setIfInBounds_toArray, List.set_cons_zero, List.set_cons_succ]
              refine wpAnyH_take (i := 20) (oi := ({ dst := some 95, op := Op.load 35 (Operand.tmp 17), type := 35, pos := "law.go:138", after := #[{ on := 18, ground := Ground.guard }], guard := some (18, true) } : Oper)) (v := ?_) rfl (by kernel_rfl) (by kernel_rfl) (by kernel_rfl) (fun _ _ _ h => h) (Or.inl ⟨by kernel_rfl, ?_⟩) (by assumption) ?_
              rotate_left
              · (intro w hSw; obtain ⟨_, y0, y1, y2, y3, y4, y5, y6, y7, y8, y9, y10, y11, y12⟩ := hSw; go_simp; try (with_reducible rfl))
              try simp only [Act.put, List.setIfInBounds_toArray, List.set_cons_zero, List.set_cons_succ]
              refine wpAnyH_take (i := 22) (oi := ({ dst := some 97, op := Op.move (Operand.tmp 12), type := 48, pos := "law.go:138", after := #[{ on := 18, ground := Ground.guard }], guard := some (18, true) } : Oper)) (v := ?_) rfl (by kernel_rfl) (by kernel_rfl) (by kernel_rfl) (fun _ _ _ h => h) (Or.inl ⟨by kernel_rfl, ?_⟩) (by assumption) ?_
              rotate_left
              · (intro w hSw; have hSw1 := hSw.1; clear hSw; go_simp; try (with_reducible rfl))
              try simp only [Act.put, List.setIfInBounds_toArray, List.set_cons_zero, List.set_cons_succ]
              refine wpAnyH_take (i := 23) (oi := ({ dst := some 98, op := Op.load 35 (Operand.tmp 17), type := 35, pos := "law.go:138", after := #[{ on := 18, ground := Ground.guard }], guard := some (18, true) } : Oper)) (v := ?_) rfl (by kernel_rfl) (by kernel_rfl) (by kernel_rfl) (fun _ _ _ h => h) (Or.inl ⟨by kernel_rfl, ?_⟩) (by assumption) ?_
              rotate_left
              · (intro w hSw; obtain ⟨_, y0, y1, y2, y3, y4, y5, y6, y7, y8, y9, y10, y11, y12⟩ := hSw; go_simp; try (with_reducible rfl))
              try simp only [Act.put, List.setIfInBounds_toArray, List.set_cons_zero, List.set_cons_succ]
              refine wpAnyH_ready (rs := [21]) (by kernel_rfl) (by simp) ?_
              refine AllReadyH.cons (o := ({ dst := some 96, op := Op.call { callee := Callee.value (Operand.func 17), args := #[Operand.tmp 94, Operand.tmp 95], argTypes := #[27, 35] }, type := 28, pos := "law.go:138", after := #[{ on := 19, ground := Ground.data }, { on := 20, ground := Ground.data }, { on := 18, ground := Ground.chain }, { on := 18, ground := Ground.guard }], guard := some (18, true) } : Oper)) rfl (fun K hK => ?_) AllReadyH.nil
              go_simp
              (go_at_call 17; refine (mr_lost H.out x).mono ?_; rintro e wa ⟨rfl, F2, H2⟩; clear H; have H := Lib.hid H2; clear H2)
              try (go_wp2_with fail)
              refine hK.out _ _ (ms_of H.out) (fun hHeld => ?_)
              clear hK K
              refine wpAnyH_ready (rs := [24]) (by kernel_rfl) (by simp) ?_
              refine AllReadyH.cons (o := ({ dst := some 99, op := Op.call { callee := Callee.value (Operand.func 28), args := #[Operand.tmp 97, Operand.tmp 98], argTypes := #[48, 35] }, type := 28, pos := "law.go:138", after := #[{ on := 22, ground := Ground.data }, { on := 23, ground := Ground.data }, { on := 21, ground := Ground.chain }, { on := 18, ground := Ground.guard }], guard := some (18, true) } : Oper)) rfl (fun K hK => ?_) AllReadyH.nil
              go_simp
              (go_at_call 28; refine (mr_rlost H.out x).mono ?_; rintro e wb ⟨rfl, G2, H2⟩; clear H; have H := Lib.hid H2; clear H2)
              try (go_wp2_with fail)
              refine hK.out _ _ (ms_of H.out) (fun hHeld => ?_)
              clear hK K
              refine wpAnyH_take (i := 25) (oi := ({ dst := some 100, op := Op.binOp BinOp.neq 28 (Operand.tmp 96) (Operand.tmp 99) 28, type := 4, pos := "law.go:138", after := #[{ on := 21, ground := Ground.data }, { on := 24, ground := Ground.data }, { on := 18, ground := Ground.guard }], guard := some (18, true) } : Oper)) (v := ?_) rfl (by kernel_rfl) (by kernel_rfl) (by kernel_rfl) (fun _ _ _ h => h) (Or.inl ⟨by kernel_rfl, ?_⟩) (by assumption) ?_
              rotate_left
              · (intro w hSw; have hSw1 := hSw.1; clear hSw; go_simp; try (with_reducible rfl))
              try simp only [Act.put, List.setIfInBounds_toArray, List.set_cons_zero, List.set_cons_succ]
              refine wpAnyH_take (i := 26) (oi := ({ dst := some 101, op := Op.pick (Operand.tmp 93) (Operand.tmp 100) (Operand.const (Value.bool false)), type := 4, pos := "law.go:138", after := #[{ on := 18, ground := Ground.data }, { on := 25, ground := Ground.data }, { on := 13, ground := Ground.guard }], guard := some (13, false) } : Oper)) (v := ?_) rfl (by kernel_rfl) (by kernel_rfl) (by kernel_rfl) (fun _ _ _ h => h) (Or.inl ⟨by kernel_rfl, ?_⟩) (by assumption) ?_
              rotate_left
              · (intro w hSw; have hSw1 := hSw.1; clear hSw; go_simp; try (with_reducible rfl))
              try simp only [Act.put, List.setIfInBounds_toArray, List.set_cons_zero, List.set_cons_succ]
              refine wpAnyH_take (i := 27) (oi := ({ dst := some 102, op := Op.pick (Operand.tmp 88) (Operand.const (Value.bool true)) (Operand.tmp 101), type := 4, pos := "law.go:138", after := #[{ on := 13, ground := Ground.data }, { on := 26, ground := Ground.data }], guard := none } : Oper)) (v := ?_) rfl (by kernel_rfl) (by kernel_rfl) (by kernel_rfl) (fun _ _ _ h => h) (Or.inl ⟨by kernel_rfl, ?_⟩) (by assumption) ?_
              rotate_left
              · (intro w hSw; have hSw1 := hSw.1; clear hSw; go_simp; try (with_reducible rfl))
              try simp only [Act.put, List.setIfInBounds_toArray, List.set_cons_zero, List.set_cons_succ]
              refine wpAnyH_done (by kernel_rfl) ?_ _
              go_wp2
              go_meet
              exact ⟨rfl, _, _, H⟩
            case rest =>
            obtain ⟨rfl, F2, G2, H2⟩ := hcut
            clear H d0 d1 d2 d3 d4
            have H := H2
            clear H2
            go_wp2_with (first
              | (go_at_call 29; refine (mr_same H.out).mono ?_; rintro e wz ⟨rfl, H2⟩; clear H; have H := Lib.hid H2; clear H2))
            go_roundw
            case rel => exact ⟨k + 1, X.lost x, l, F2, G2, hlt1, hlt2, by simp, Lib.hid (HS.out.lost x (H.out.sub (os' := []) (by simp)))⟩
            case measure => simp [intOf]; omega
    · as_aux_lemma =>
        have hcase2 : (k < cl.length ∧ 50 ≤ k) ∨ cl.length ≤ k := by omega
        clear hlt
        rcases hcase2 with ⟨hc1, hc2⟩ | hc1
        all_goals
          go_wp2
          go_ret
          exact ⟨rfl, H.out.sf.below⟩
theorem main {H : Type} {enc : TypeId × Value → H} (W : World) (base0 : Nat) (v0 : Value) (d0 : DataW H) (p0 : List MemPlace) (hv0 : Value.okWide Try.prog W .any base0 3 v0) (h0 : DataW.Trod enc Try.prog W 0 (fun _ => true) true 3 v0 d0 p0)
    (base1 : Nat) (v1 : Value) (d1 : DataW H) (p1 : List MemPlace) (hv1 : Value.okWide Try.prog W .any base1 41 v1) (h1 : DataW.Trod enc Try.prog W 0 (fun _ => true) true 41 v1 d1 p1) :
    Calls Try.prog 8 #[v0, v1] W fun e w' => e = .returned (.bool true) ∧ Below W.heap.size W w' := by
  obtain ⟨a0, rfl, _, _, w0⟩ := open_int Try.underlying3 hv0 h0
  obtain ⟨cl, hz, hmz, hrz⟩ := cps_at hv1 h1
  obtain ⟨a2, cap2, rfl⟩ := hz.form
  exact walk a0 cl a2 cap2 W (bounds_i64 w0) hz hmz hrz
end Go.Proofs.Ytmjekepiplibkaa.sendBufMatchesReference
