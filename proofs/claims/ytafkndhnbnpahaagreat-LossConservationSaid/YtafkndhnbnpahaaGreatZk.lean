/- Law 13: CallParams as plain data; ackFrom. -/
import Derived.Test.YtafkndhnbnpahaaGreatZj
namespace Go.Proofs.YtafkndhnbnpahaaGreat
open Go.RowKit
/-- a CallParams: sv, fsv: what its slices of spans hold -/
structure Cp where
  kind : Int
  ticks : Int
  size : Int
  sv : Value
  last : Int
  ft : Int
  fa : Int
  fb : Int
  fc : Int
  fs : ByteArray
  fin : Bool
  fsv : Value
  p : Pk
def Cp.cells (c : Cp) : Array Value := #[.int .i64 c.kind, .int .i64 c.ticks, .int .i64 c.size, c.sv, .int .i64 c.last, .int .i64 c.ft, .int .i64 c.fa, .int .i64 c.fb, .int .i64 c.fc, .string c.fs, .bool c.fin, c.fsv,
  .int .i64 c.p.pn, .int .i64 c.p.time, .int .i64 c.p.size, .bool c.p.el, c.p.fv]
def I64 (x : Int) : Prop := -9223372036854775808 ≤ x ∧ x ≤ 9223372036854775807
theorem info34 : (Tryz.prog.info? 34).map (·.size) = some 17 := by kernel_rfl
/-- how large the largest number may be: 1 and more -/
def topF (next last : Int) (late : Bool) : Int := (if late then next + 3 else max next 1) - pickF last (min (if late then next + 3 else max next 1) 12)
theorem topF_range (next last : Int) (late : Bool) (h : 0 ≤ next) : 1 ≤ topF next last late ∧ topF next last late ≤ (if late then next + 3 else max next 1) := by
  unfold topF
  cases late <;> simp only [if_true, Bool.false_eq_true, if_false]
  · have := pickF_range last (min (max next 1) 12) (by omega)
    omega
  · have := pickF_range last (min (next + 3) 12) (by omega)
    omega
variable {w0 w : World} {b M : Nat} {R : Rc} {rows : List Rw} {os : List (Nat × Obj)}
def AfPost (w0 w : World) (b M : Nat) (R : Rc) (rows : List Rw) (os : List (Nat × Obj)) (top : Int) (e : Ending) (w' : World) : Prop :=
  ∃ a c l, e = .returned (.agg (ackE 0 (.slice a (List.length l) c))) ∧ RgOk l.length (fF l) (fT l) ∧ fT l 0 = top ∧ Lw w0 w' b M R (spR (.slice a l.length c) l :: rows) os ∧ Below w.heap.size w w'
theorem grown_setRow (w : World) (k : Nat) (cs : Array Value) : w.grownBy (w.setRow k cs) (some k) :=
  ⟨rfl, rfl, rfl, by simp, fun j _ hr => setRow_other w k j cs (fun e => hr (by rw [e]))⟩
theorem row_apart {W : World} {B n z k : Nat} {e T : TypeId} {v : Value} {xs : List Value} {cs : Array Value} {fz : Nat × Nat} (h : W.ownsRow B e z v n xs) (hk : W.heap[k]? = some (.cells cs T fz)) (hT : T ≠ e) : v.ownBlock ≠ some k := by
  intro e1
  rcases h.2 with ⟨rfl, _⟩ | ⟨g, cap, cur, rfl, hbase, hgg, _⟩
  · simp [Value.ownBlock] at e1
  · simp [Value.ownBlock] at e1
    subst e1
    rw [hgg] at hk
    cases hk
    exact hT rfl
/-- the last step of ackFrom: the frame is stored into the result's own block -/
theorem af_end {w4 : World} {k c : Nat} {a : Option Addr} {l : List (Int × Int)} {cs : Array Value} (H : Lw w0 w b M R rows os) (H4 : Lw w0 w4 b M R (spR (.slice a l.length c) l :: rows) os) (hk : w4.heap[k]? = some (.cells cs 41 (0, 0))) (hw : w.heap.size ≤ k) (hb4 : Below w.heap.size w w4) :
    Lw w0 (w4.setRow k (ackE 0 (.slice a l.length c))) b M R (spR (.slice a l.length c) l :: rows) os ∧ Below w.heap.size w (w4.setRow k (ackE 0 (.slice a l.length c))) := by
  have hg := grown_setRow w4 k (ackE 0 (.slice a l.length c))
  have hb : Below w.heap.size w (w4.setRow k (ackE 0 (.slice a l.length c))) := hb4.grown hg hb4.size (fun j e => by cases e; exact hw)
  have hr : spR (.slice a l.length c) l ∈ spR (.slice a l.length c) l :: rows := by simp
  have hrow : (w4.setRow k (ackE 0 (.slice a l.length c))).ownsRow w0.heap.size 51 2 (.slice a l.length c) l.length (scs l) := by
    have h1 : w4.ownsRow w0.heap.size 51 2 (.slice a l.length c) l.length (scs l) := (H4.rows _ hr).1
    exact h1.kept hg (.inr (row_apart h1 hk (by decide)))
  exact ⟨(H.below hb).addRow (spR _ l) hrow (show (51 : Nat) ≠ 75 by decide), hb⟩
theorem hold_store {P : Program} {ops : Array Oper} {rest : List Oper} {o : Oper} {a : Act} {w : World} {Q : Exit → Act → World → Prop} (ty : TypeId) (x y : Operand) (_ho : o.op = .store ty x y) (h : Hid (wpList P ops Q (o :: rest) a w)) : wpList P ops Q (o :: rest) a w := h.out
set_option maxRecDepth 100000 in
set_option maxHeartbeats 8000000 in
theorem lw_ackfrom (h : Lw w0 w b M R rows os) (c : Cp) {n0 : Nat} {F0 T0 : Nat → Int} (hA : SpArg w c.sv n0 F0 T0) (hl : I64 c.last) (hn0 : n0 ≤ 9223372036854775807) (next : Int) (late : Bool) (h0 : 0 ≤ next) (h1 : next ≤ 100000) (hfs : ∃ a n k, c.fsv = .slice a n k) (hfv : ∃ a n k, c.p.fv = .slice a n k) :
    Calls Tryz.prog 16 #[.agg c.cells, .int .i64 next, .bool late] w (AfPost w0 w b M R rows os (topF next c.last late)) := by
  have tr := topF_range next c.last late h0
  have TP := Lib.hid (show topF next c.last late = (if late then next + 3 else max next 1) - pickF c.last (min (if late then next + 3 else max next 1) 12) from rfl)
  obtain ⟨a0, cap0, hsv, _⟩ := id hA
  obtain ⟨x1, x2, x3, hfs⟩ := hfs
  obtain ⟨y1, y2, y3, hfv⟩ := hfv
  have HA := Lib.hid hA
  obtain ⟨kind, ticks, size, sv, last, ft, fa, fb, fc, fs, fin, fsv, ⟨pn, time, psize, el, fv⟩⟩ := c
  simp only at hsv hfs hfv TP tr hl
  subst hsv hfs hfv
  simp only [Cp.cells]
  have H := Lib.hid h
  have X := Lib.hid ((h.alloc (.cells #[.int .i64 kind, .int .i64 ticks, .int .i64 size, .slice a0 n0 cap0, .int .i64 last, .int .i64 ft, .int .i64 fa, .int .i64 fb, .int .i64 fc, .string fs, .bool fin, .slice x1 x2 x3, .int .i64 pn, .int .i64 time, .int .i64 psize, .bool el, .slice y1 y2 y3] 34) rfl).alloc
    (.cells #[.int .i64 0, .int .i64 0, .int .i64 0, .string ⟨#[]⟩, .bool false, .int .i64 0, .int .i64 0, .bool false, .int .i64 0, .slice none 0 0, .int .i64 0, .int .i64 0, .string ⟨#[]⟩] 41) rfl)
  rw [World.size_alloc] at X
  have BX := Lib.hid (show Below w.heap.size w ((w.alloc (.cells #[.int .i64 kind, .int .i64 ticks, .int .i64 size, .slice a0 n0 cap0, .int .i64 last, .int .i64 ft, .int .i64 fa, .int .i64 fb, .int .i64 fc, .string fs, .bool fin, .slice x1 x2 x3, .int .i64 pn, .int .i64 time, .int .i64 psize, .bool el, .slice y1 y2 y3] 34)).alloc (.cells #[.int .i64 0, .int .i64 0, .int .i64 0, .string ⟨#[]⟩, .bool false, .int .i64 0, .int .i64 0, .bool false, .int .i64 0, .slice none 0 0, .int .i64 0, .int .i64 0, .string ⟨#[]⟩] 41)) from ((Below.refl _ w).alloc (Nat.le_refl _) _).alloc (by simp) _)
  clear h hA
  cases late with
  | false =>
    simp only [Bool.false_eq_true, if_false] at TP tr
    obtain ⟨n, hn⟩ : ∃ n, n = max next 1 := ⟨_, rfl⟩
    have hn1 : 1 ≤ n := by omega
    have hn2 : n ≤ 100010 := by omega
    obtain ⟨m, hm⟩ : ∃ m, m = min n 12 := ⟨_, rfl⟩
    have hm1 : 1 ≤ m := by omega
    have hm2 : m ≤ 12 := by omega
    rw [← hn, ← hm] at TP
    rw [← hn] at tr
    have P := Lib.hid (fun w => pick_any last m w hl.1 hl.2 (by omega) (by omega))
    have pr := pickF_range last m (by omega)
    generalize pickF last m = back at *
    have hn' := hn.symm
    have hm' := hm.symm
    have ht := Lib.hid (show 1 + pickF (n - 1 - back) 1073741824 = topF next last false from by rw [pick_small _ _ (by omega) (by omega), TP.out]; omega)
    clear hn hm tr
    go_enter Tryz.func16, Tryz.ntmps16
    go_wp2_with (go_at_call 13; refine (P.out _).mono ?_; rintro e w' ⟨rfl, rfl⟩)
    refine (lw_ranges X.out (n - 1 - back) (HA.out.below BX.out) (by omega) (by omega) hn0).mono ?_
    rintro e w4 ⟨r, l, rfl, hok, htop, ⟨ra, rc, hrf⟩, h4, hb4⟩
    subst hrf
    have HQ := Lib.hid (h4.at List.mem_cons_self)
    have H4 := Lib.hid (And.intro (h4.sub (rows' := spR (.slice ra l.length rc) l :: rows) (os' := os) (by simp) (by intro x hx; simp [hx])) (And.intro hok (And.intro htop (BX.out.trans (hb4.mono BX.out.size)))))
    clear h4 hok htop hb4
    go_wp2_with ((with_reducible refine hold_store 41 _ _ rfl ?_))
    refine Lib.hid ?_
    refine wpList_store_row rfl 41 _ _ rfl (w.heap.size + 1) _ rfl rfl 41 _ HQ.out size41 rfl (by simp [Value.oneCell']) ?_
    go_wp2
    have EN := af_end H.out H4.out.1 HQ.out (by omega) H4.out.2.2.2
    refine bodyPost_ret (v := .agg (ackE 0 (.slice ra l.length rc))) (results_cell_row rfl _ _ (w.heap.size + 1) 41 _ (0, 0) _ rfl (setRow_heap _ _ _ _ _ _ HQ.out) Tryz.underlying41 rfl size41) rfl ?_
    exact ⟨ra, rc, l, rfl, H4.out.2.1, by rw [H4.out.2.2.1]; exact ht.out, EN.1, EN.2⟩
  | true =>
    simp only [if_true] at TP tr
    obtain ⟨n, hn⟩ : ∃ n, n = next + 3 := ⟨_, rfl⟩
    have hn1 : 1 ≤ n := by omega
    have hn2 : n ≤ 100010 := by omega
    obtain ⟨m, hm⟩ : ∃ m, m = min n 12 := ⟨_, rfl⟩
    have hm1 : 1 ≤ m := by omega
    have hm2 : m ≤ 12 := by omega
    rw [← hn, ← hm] at TP
    rw [← hn] at tr
    have P := Lib.hid (fun w => pick_any last m w hl.1 hl.2 (by omega) (by omega))
    have pr := pickF_range last m (by omega)
    generalize pickF last m = back at *
    have hn' := hn.symm
    have hm' := hm.symm
    have ht := Lib.hid (show 1 + pickF (n - 1 - back) 1073741824 = topF next last true from by rw [pick_small _ _ (by omega) (by omega), TP.out]; omega)
    clear hn hm tr
    go_enter Tryz.func16, Tryz.ntmps16
    go_wp2_with (go_at_call 13; refine (P.out _).mono ?_; rintro e w' ⟨rfl, rfl⟩)
    refine (lw_ranges X.out (n - 1 - back) (HA.out.below BX.out) (by omega) (by omega) hn0).mono ?_
    rintro e w4 ⟨r, l, rfl, hok, htop, ⟨ra, rc, hrf⟩, h4, hb4⟩
    subst hrf
    have HQ := Lib.hid (h4.at List.mem_cons_self)
    have H4 := Lib.hid (And.intro (h4.sub (rows' := spR (.slice ra l.length rc) l :: rows) (os' := os) (by simp) (by intro x hx; simp [hx])) (And.intro hok (And.intro htop (BX.out.trans (hb4.mono BX.out.size)))))
    clear h4 hok htop hb4
    go_wp2_with ((with_reducible refine hold_store 41 _ _ rfl ?_))
    refine Lib.hid ?_
    refine wpList_store_row rfl 41 _ _ rfl (w.heap.size + 1) _ rfl rfl 41 _ HQ.out size41 rfl (by simp [Value.oneCell']) ?_
    go_wp2
    have EN := af_end H.out H4.out.1 HQ.out (by omega) H4.out.2.2.2
    refine bodyPost_ret (v := .agg (ackE 0 (.slice ra l.length rc))) (results_cell_row rfl _ _ (w.heap.size + 1) 41 _ (0, 0) _ rfl (setRow_heap _ _ _ _ _ _ HQ.out) Tryz.underlying41 rfl size41) rfl ?_
    exact ⟨ra, rc, l, rfl, H4.out.2.1, by rw [H4.out.2.2.1]; exact ht.out, EN.1, EN.2⟩
end Go.Proofs.YtafkndhnbnpahaaGreat
