/- Texts W X Y Tka Scope Tkb Tkc Copy Tkd Tke of this claim, one behind the other. -/
import Derived.Test.YtpfkeohaaeiaaaaGreatMs2
import Derived.Test.YtpfkeohaaeiaaaaGreatMs3
import Derived.BigQuiet
import Derived.StillTailTactics
import Derived.Test.YtpfkeohaaeiaaaaGreatMs1
import Derived.ControlIn
import Derived.Scope
import Derived.ScopeJumps
import Derived.Laws.CopyOwn
import Derived.Laws.IdiomCopy
import Derived.Laws.CopyRow
/- Law 13: the conditions on packets. -/
namespace Go.Proofs.YtpfkeohaaeiaaaaGreat
open Go.RowKit
set_option maxRecDepth 100000 in
set_option maxHeartbeats 2000000 in
theorem want46 (p : Pk) (w : World) : Calls Tryz.prog 42 #[p.val] w fun e w' => e = .returned (.bool true) ∧ Below w.heap.size w w' := by
  simp only [Pk.val]
  go_enter Tryz.func42, Tryz.ntmps42
  go_wp2
  go_ret
  exact ⟨rfl, (Below.refl _ _).alloc (Nat.le_refl _) _⟩
set_option maxRecDepth 100000 in
set_option maxHeartbeats 2000000 in
theorem want57 (p : Pk) (w : World) : Calls Tryz.prog 44 #[p.val] w fun e w' => e = .returned (.bool p.el) ∧ Below w.heap.size w w' := by
  simp only [Pk.val, Pk.cells]
  go_enter Tryz.func44, Tryz.ntmps44
  go_wp2
  go_ret
  exact ⟨rfl, (Below.refl _ _).alloc (Nat.le_refl _) _⟩
def dlF (lg : Int) (p : Pk) : Bool := decide (p.pn < lg)
set_option maxRecDepth 100000 in
set_option maxHeartbeats 2000000 in
theorem want50 (p : Pk) (B b : Nat) (lg : Int) (w : World) (hB : w.cell? ⟨B, 0, none⟩ = some (.pointer (some ⟨b, 0, none⟩))) (hb : w.cell? ⟨b, 2, none⟩ = some (.int .i64 lg)) :
    Calls Tryz.prog 43 #[p.val, .pointer (some ⟨B, 0, none⟩)] w fun e w' => e = .returned (.bool (dlF lg p)) ∧ Below w.heap.size w w' := by
  simp only [Pk.val, Pk.cells]
  have hBl := World.block_lt_of_cell? _ _ hB
  have hbl := World.block_lt_of_cell? _ _ hb
  have H := Lib.hid (box1 w (.cells #[.int .i64 p.pn, .int .i64 p.time, .int .i64 p.size, .bool p.el, p.fv] 39))
  have E := Lib.hid (show dlF lg p = decide (p.pn < lg) from rfl)
  go_enter Tryz.func43, Tryz.ntmps43
  go_wp2
  have c1 := at_whole H.out.1 0 rfl
  have c2 : (w.alloc (.cells #[.int .i64 p.pn, .int .i64 p.time, .int .i64 p.size, .bool p.el, p.fv] 39)).cell? ⟨B, 0, none⟩ = some (.pointer (some ⟨b, 0, none⟩)) := (H.out.2.1.cell (p := ⟨B, 0, none⟩) hBl).trans hB
  have c3 : (w.alloc (.cells #[.int .i64 p.pn, .int .i64 p.time, .int .i64 p.size, .bool p.el, p.fv] 39)).cell? ⟨b, 2, none⟩ = some (.int .i64 lg) := (H.out.2.1.cell (p := ⟨b, 2, none⟩) hbl).trans hb
  simp only [List.getElem_toArray, List.getElem_cons_zero] at c1
  generalize w.alloc _ = W at c1 c2 c3 H ⊢
  go_quiet (fail)
  go_wp2
  go_ret
  exact ⟨by rw [E.out]; rfl, belowN H.out.2.1 _⟩
def exF (lg now d : Int) (p : Pk) : Bool := decide (p.pn < lg) && (decide (p.pn + 3 ≤ lg) || decide (p.time ≤ now - d))
set_option maxRecDepth 100000 in
set_option maxHeartbeats 4000000 in
theorem want39 (p : Pk) (B3 B4 B5 b : Nat) (lg now d : Int) (w : World) (h3 : w.cell? ⟨B3, 0, none⟩ = some (.pointer (some ⟨b, 0, none⟩))) (h4 : w.cell? ⟨B4, 0, none⟩ = some (.int .i64 now)) (h5 : w.cell? ⟨B5, 0, none⟩ = some (.int .i64 d))
    (hb : w.cell? ⟨b, 2, none⟩ = some (.int .i64 lg)) (hp : 0 ≤ p.pn ∧ p.pn ≤ 281474976710656) (hn : 0 ≤ now) (hn' : now ≤ 9223372036854775807) (hd : 0 ≤ d) (hd' : d ≤ 9223372036854775807) :
    Calls Tryz.prog 39 #[p.val, .pointer (some ⟨B3, 0, none⟩), .pointer (some ⟨B4, 0, none⟩), .pointer (some ⟨B5, 0, none⟩)] w fun e w' => e = .returned (.bool (exF lg now d p)) ∧ Below w.heap.size w w' := by
  simp only [Pk.val, Pk.cells]
  have l3 := World.block_lt_of_cell? _ _ h3
  have l4 := World.block_lt_of_cell? _ _ h4
  have l5 := World.block_lt_of_cell? _ _ h5
  have lb := World.block_lt_of_cell? _ _ hb
  obtain ⟨hp0, hp1⟩ := hp
  have H := Lib.hid (box1 w (.cells #[.int .i64 p.pn, .int .i64 p.time, .int .i64 p.size, .bool p.el, p.fv] 39))
  have E := Lib.hid (show exF lg now d p = (decide (p.pn < lg) && (decide (p.pn + 3 ≤ lg) || decide (p.time ≤ now - d))) from rfl)
  have c1 := at_whole H.out.1 0 rfl
  have c1' := at_whole H.out.1 1 rfl
  have c3 : (w.alloc (.cells #[.int .i64 p.pn, .int .i64 p.time, .int .i64 p.size, .bool p.el, p.fv] 39)).cell? ⟨B3, 0, none⟩ = some (.pointer (some ⟨b, 0, none⟩)) := (H.out.2.1.cell (p := ⟨B3, 0, none⟩) l3).trans h3
  have c4 : (w.alloc (.cells #[.int .i64 p.pn, .int .i64 p.time, .int .i64 p.size, .bool p.el, p.fv] 39)).cell? ⟨B4, 0, none⟩ = some (.int .i64 now) := (H.out.2.1.cell (p := ⟨B4, 0, none⟩) l4).trans h4
  have c5 : (w.alloc (.cells #[.int .i64 p.pn, .int .i64 p.time, .int .i64 p.size, .bool p.el, p.fv] 39)).cell? ⟨B5, 0, none⟩ = some (.int .i64 d) := (H.out.2.1.cell (p := ⟨B5, 0, none⟩) l5).trans h5
  have cb : (w.alloc (.cells #[.int .i64 p.pn, .int .i64 p.time, .int .i64 p.size, .bool p.el, p.fv] 39)).cell? ⟨b, 2, none⟩ = some (.int .i64 lg) := (H.out.2.1.cell (p := ⟨b, 2, none⟩) lb).trans hb
  simp only [List.getElem_toArray, List.getElem_cons_zero, List.getElem_cons_succ] at c1 c1'
  have w1 : IntKind.i64.wrap (p.pn + 3) = p.pn + 3 := IntWalk.i64_in _ (by omega)
  have w2 : IntKind.i64.wrap (now - d) = now - d := IntWalk.i64_in _ (by omega)
  clear h3 h4 h5 hb l3 l4 l5 lb
  cases a1 : decide (p.pn < lg) with
  | false =>
    rw [a1] at E
    go_enter Tryz.func39, Tryz.ntmps39
    go_wp2
    generalize w.alloc _ = W at c1 c1' c3 c4 c5 cb H ⊢
    go_quiet (fail)
    go_wp2
    go_ret
    exact ⟨by rw [E.out]; rfl, belowN H.out.2.1 _⟩
  | true =>
    rw [a1] at E
    cases a2 : decide (p.pn + 3 ≤ lg) with
    | true =>
      rw [a2] at E
      go_enter Tryz.func39, Tryz.ntmps39
      go_wp2
      generalize w.alloc _ = W at c1 c1' c3 c4 c5 cb H ⊢
      go_quiet (fail)
      go_wp2
      go_ret
      exact ⟨by rw [E.out]; rfl, belowN H.out.2.1 _⟩
    | false =>
      rw [a2] at E
      go_enter Tryz.func39, Tryz.ntmps39
      go_wp2
      generalize w.alloc _ = W at c1 c1' c3 c4 c5 cb H ⊢
      go_quiet (fail)
      go_wp2
      go_ret
      exact ⟨by rw [E.out]; rfl, belowN H.out.2.1 _⟩
end Go.Proofs.YtpfkeohaaeiaaaaGreat
/- Law 13: which packets an ACK frame names. -/
namespace Go.Proofs.YtpfkeohaaeiaaaaGreat
open Go.RowKit
def spF (f t pn : Int) : Bool := decide (f ≤ pn) && decide (pn < t)
set_option maxRecDepth 100000 in
set_option maxHeartbeats 2000000 in
theorem in43 (f t pn : Int) (Bp : Nat) (w : World) (hp : w.cell? ⟨Bp, 0, none⟩ = some (.int .i64 pn)) :
    Calls Tryz.prog 38 #[.agg #[.int .i64 f, .int .i64 t], .pointer (some ⟨Bp, 0, none⟩)] w fun e w' => e = .returned (.bool (spF f t pn)) ∧ Below w.heap.size w w' := by
  have hl := World.block_lt_of_cell? _ _ hp
  have E := Lib.hid (show spF f t pn = (decide (f ≤ pn) && decide (pn < t)) from rfl)
  cases a1 : decide (f ≤ pn) with
  | false =>
    rw [a1] at E
    go_enter Tryz.func38, Tryz.ntmps38
    go_wp2
    go_ret
    exact ⟨by rw [E.out]; rfl, (Below.refl _ _).alloc (Nat.le_refl _) _⟩
  | true =>
    rw [a1] at E
    go_enter Tryz.func38, Tryz.ntmps38
    go_wp2
    go_ret
    exact ⟨by rw [E.out]; rfl, (Below.refl _ _).alloc (Nat.le_refl _) _⟩
/-- do the ranges from number k on name pn? -/
def inFrom (F T : Nat → Int) (pn : Int) : Nat → Nat → Bool
  | 0, _ => false
  | m + 1, k => spF (F k) (T k) pn || inFrom F T pn m (k + 1)
def inF (n : Nat) (F T : Nat → Int) (pn : Int) : Bool := (List.range n).any fun k => spF (F k) (T k) pn
def IdxPost (n : Nat) (F T : Nat → Int) (pn : Int) (w : World) (e : Ending) (w' : World) : Prop := ∃ r : Int, e = .returned (.int .i64 r) ∧ decide (0 ≤ r) = inF n F T pn ∧ Below w.heap.size w w'
set_option maxRecDepth 100000 in
set_option maxHeartbeats 4000000 in
theorem idx66 (n : Nat) (F T : Nat → Int) (pn : Int) (v : Value) (Bp : Nat) (w : World) (hn : n ≤ 1000) (hS : SpansAt w v n F T) (hp : w.cell? ⟨Bp, 0, none⟩ = some (.int .i64 pn)) :
    Calls Tryz.prog 55 #[v, .func (.func 38) #[] #[.pointer (some ⟨Bp, 0, none⟩)]] w (IdxPost n F T pn w) := by
  have hl := World.block_lt_of_cell? _ _ hp
  obtain ⟨g, o, cap, rfl, hcap, hm, hsp⟩ := hS
  have SP := Lib.hid hsp
  have HP := Lib.hid hp
  unfold maxLen at hm
  clear hsp hp
  go_enter Tryz.func55, Tryz.ntmps55
  go_wp2
  go_loopw [8] (fun i wr => ∃ k : Nat, k ≤ n ∧ i = .int .i64 k ∧ Hid (∀ j, j < k → spF (F j) (T j) pn = false) ∧ Below w.heap.size w wr) (fun i _ => n - (intOf i).toNat)
  case atStart => exact ⟨0, by omega, rfl, Lib.hid (fun j hj => by omega), Below.refl _ _⟩
  case round =>
    obtain ⟨k, hk, rfl, hno, hB⟩ := hrel
    have B := Lib.hid hB
    clear hB
    by_cases hlt : k < n
    · have s0 : wr.cell? ⟨g, o + k * 2, none⟩ = some (.int .i64 (F k)) := (B.out.cell (World.block_lt_of_cell? _ _ (SP.out k hlt).1)).trans (SP.out k hlt).1
      have s1 : wr.cell? ⟨g, o + k * 2 + 1, none⟩ = some (.int .i64 (T k)) := (B.out.cell (World.block_lt_of_cell? _ _ (SP.out k hlt).2)).trans (SP.out k hlt).2
      have C := Lib.hid (in43 (F k) (T k) pn Bp wr ((B.out.cell (p := ⟨Bp, 0, none⟩) hl).trans HP.out))
      cases hc : spF (F k) (T k) pn with
      | true =>
        rw [hc] at C
        have HC := Lib.hid hc
        clear hc
        go_wp2_with (go_at_call 38; refine C.out.mono ?_; rintro e w1 ⟨rfl, hb1⟩)
        go_ret
        refine ⟨k, rfl, ?_, B.out.trans (hb1.mono B.out.size)⟩
        have : inF n F T pn = true := List.any_eq_true.2 ⟨k, List.mem_range.2 hlt, HC.out⟩
        rw [this]; simp
      | false =>
        rw [hc] at C
        have HC := Lib.hid hc
        clear hc
        go_wp2_with (go_at_call 38; refine C.out.mono ?_; rintro e w1 ⟨rfl, hb1⟩)
        have B1 := Lib.hid (B.out.trans (hb1.mono B.out.size))
        clear hb1
        go_roundw
        case rel => exact ⟨k + 1, by omega, by go_num, Lib.hid (fun j hj => by rcases Nat.lt_succ_iff_lt_or_eq.1 hj with h | h; exact hno.out j h; rw [h]; exact HC.out), B1.out⟩
        case measure => simp [intOf]; omega
    · obtain rfl : k = n := by omega
      clear hlt
      go_wp2
      go_ret
      refine ⟨-1, rfl, ?_, B.out⟩
      have : inF k F T pn = false := by
        unfold inF
        rw [List.any_eq_false]
        intro j hj
        rw [hno.out j (List.mem_range.1 hj)]
        simp
      rw [this]; rfl
set_option maxRecDepth 100000 in
set_option maxHeartbeats 2000000 in
theorem contains42 (n : Nat) (F T : Nat → Int) (pn : Int) (v : Value) (Bp : Nat) (w : World) (hn : n ≤ 1000) (hS : SpansAt w v n F T) (hp : w.cell? ⟨Bp, 0, none⟩ = some (.int .i64 pn)) :
    Calls Tryz.prog 37 #[v, .func (.func 38) #[] #[.pointer (some ⟨Bp, 0, none⟩)]] w fun e w' => e = .returned (.bool (inF n F T pn)) ∧ Below w.heap.size w w' := by
  have C := Lib.hid (idx66 n F T pn v Bp w hn hS hp)
  obtain ⟨g, o, cap, rfl, _⟩ := hS
  clear hp
  cases hi : inF n F T pn with
  | true =>
    have H := Lib.hid hi
    clear hi
    go_enter Tryz.func37, Tryz.ntmps37
    go_wp2_with (go_at_call 55; refine C.out.mono ?_; rintro e w1 ⟨r, rfl, hr, hb⟩; rw [H.out] at hr)
    go_ret
    exact ⟨rfl, hb⟩
  | false =>
    have H := Lib.hid hi
    clear hi
    go_enter Tryz.func37, Tryz.ntmps37
    go_wp2_with (go_at_call 55; refine C.out.mono ?_; rintro e w1 ⟨r, rfl, hr, hb⟩; rw [H.out] at hr)
    go_ret
    exact ⟨rfl, hb⟩
def akF (n : Nat) (F T : Nat → Int) (p : Pk) : Bool := inF n F T p.pn
set_option maxRecDepth 100000 in
set_option maxHeartbeats 2000000 in
theorem want41 (p : Pk) (Bf n : Nat) (F T : Nat → Int) (cs : Array Value) (v : Value) (w : World) (hn : n ≤ 1000) (hS : SpansAt w v n F T) (hb : w.heap[Bf]? = some (.cells cs 43 (0, 0))) (hc : cs[9]? = some v) :
    Calls Tryz.prog 36 #[p.val, .pointer (some ⟨Bf, 0, none⟩)] w fun e w' => e = .returned (.bool (akF n F T p)) ∧ Below w.heap.size w w' := by
  simp only [Pk.val, Pk.cells, akF]
  have hl := heap_lt hb
  have H := Lib.hid (box1 w (.cells #[.int .i64 p.pn, .int .i64 p.time, .int .i64 p.size, .bool p.el, p.fv] 39))
  have C := Lib.hid (contains42 n F T p.pn v w.heap.size _ hn (hS.below H.out.2.1) (at_whole H.out.1 0 rfl))
  obtain ⟨g, o, cap, rfl, _⟩ := hS
  have c9 : (w.alloc (.cells #[.int .i64 p.pn, .int .i64 p.time, .int .i64 p.size, .bool p.el, p.fv] 39)).cell? ⟨Bf, 9, none⟩ = some (.slice (some ⟨g, o, none⟩) n cap) := (H.out.2.1.cell (p := ⟨Bf, 9, none⟩) hl).trans ((cell_whole hb 9).trans hc)
  have hmf : ∀ (fn : Fn) (first cap : Array Value) (w : World), (Instr.makeFunc fn first cap).run Tryz.prog w = .ok (.func fn first cap) w := fun _ _ _ _ => rfl
  clear hb hc
  go_enter Tryz.func36, Tryz.ntmps36
  go_wp2_with (go_at_call 37; refine C.out.mono ?_; rintro e w1 ⟨rfl, hb1⟩)
  go_ret
  exact ⟨rfl, btrans H.out.2.1 hb1⟩
end Go.Proofs.YtpfkeohaaeiaaaaGreat
/- Law 13: a Recovery as plain data; all, filter and remove. -/
namespace Go.Proofs.YtpfkeohaaeiaaaaGreat
open Go.RowKit Go.Maps
/-- a Recovery: the outstanding packets, the next number, the largest acknowledged one -/
structure Rc where
  l : List Pk
  nx : Int
  lg : Int
structure Rc.Ok (R : Rc) : Prop where
  up : Up R.nx R.l
  n0 : 0 ≤ R.nx
  n1 : R.nx ≤ 10000
  g0 : -1 ≤ R.lg
  g1 : R.lg < R.nx
  len : (R.l.length : Int) ≤ R.nx
  tm : ∀ p ∈ R.l, 0 ≤ p.time ∧ p.time ≤ 1125899906842624
def RecAt (w : World) (b M : Nat) (R : Rc) : Prop := w.heap[b]? = some (.cells #[.map (some M), .int .i64 R.nx, .int .i64 R.lg] 59 (0, 0)) ∧ MapPk w M R.nx.toNat R.l
/-- only blocks b and M have turned -/
structure Tu (b M : Nat) (w w' : World) : Prop where
  os : w'.os = w.os
  tape : w'.tape = w.tape
  output : w'.output = w.output
  size : w.heap.size ≤ w'.heap.size
  block : ∀ k, k < w.heap.size → k ≠ b → k ≠ M → w'.heap[k]? = w.heap[k]?
theorem Tu.refl (b M : Nat) (w : World) : Tu b M w w := ⟨rfl, rfl, rfl, Nat.le_refl _, fun _ _ _ _ => rfl⟩
theorem Tu.trans {b M : Nat} {u v w : World} (h : Tu b M u v) (k : Tu b M v w) : Tu b M u w :=
  ⟨k.os.trans h.os, k.tape.trans h.tape, k.output.trans h.output, Nat.le_trans h.size k.size, fun i hi h1 h2 => (k.block i (Nat.lt_of_lt_of_le hi h.size) h1 h2).trans (h.block i hi h1 h2)⟩
theorem Tu.below {b M : Nat} {u v : World} (h : Below u.heap.size u v) : Tu b M u v := ⟨h.os, h.tape, h.output, h.size, fun i hi _ _ => h.block i hi⟩
theorem Tu.drewN {b M : Nat} {u v : World} (h : Tu b M u v) (n : Nat) : Tu b M u (v.drewN n) := ⟨h.os, h.tape, h.output, h.size, h.block⟩
theorem Tu.drew {b M : Nat} {u v : World} (h : Tu b M u v) : Tu b M u v.drew := ⟨h.os, h.tape, h.output, h.size, h.block⟩
theorem Tu.map {b M : Nat} {u v : World} (h : u.grownBy v (some M)) : Tu b M u v := ⟨h.os, h.tape, h.output, h.size, fun i hi _ h2 => h.block i hi (fun e => h2 (by cases e; rfl))⟩
theorem Tu.set {b M : Nat} (u : World) (i : Nat) (x : Value) : Tu b M u (u.setCell ⟨b, i, none⟩ x) := ⟨rfl, rfl, rfl, by simp, fun k _ h1 _ => heap_setCell_other u _ k x (fun e => h1 e)⟩
theorem Tu.to_below {b M B : Nat} {u v w : World} (h : Below B u v) (k : Tu b M v w) (hb : B ≤ b) (hM : B ≤ M) (hB : B ≤ v.heap.size) : Below B u w :=
  ⟨k.os.trans h.os, k.tape.trans h.tape, k.output.trans h.output, Nat.le_trans h.size k.size, fun i hi => (k.block i (by omega) (by omega) (by omega)).trans (h.block i hi)⟩
/-- v is a slice of the call's own that holds the packets -/
def PkRow (B : Nat) (w : World) (v : Value) (l : List Pk) : Prop := w.ownsRow B 39 5 v l.length (pcs l) ∧ (v = .slice none 0 0 ↔ l = [])
theorem PkRow.form {B : Nat} {w : World} {v : Value} {l : List Pk} (h : PkRow B w v l) : (v = .slice none 0 0 ∧ l = []) ∨ ∃ g cap cur, v = .slice (some ⟨g, 0, none⟩) l.length cap ∧ 0 < l.length ∧ l.length ≤ cap ∧ cap ≤ maxLen ∧ B ≤ g ∧ w.heap[g]? = some (.cells cur 39 (0, 0)) ∧
    ∀ k (hk : k < l.length), w.cell? ⟨g, k * 5, none⟩ = some (.int .i64 (l[k]'hk).pn) ∧ w.cell? ⟨g, k * 5 + 1, none⟩ = some (.int .i64 (l[k]'hk).time) ∧ w.cell? ⟨g, k * 5 + 2, none⟩ = some (.int .i64 (l[k]'hk).size) ∧ w.cell? ⟨g, k * 5 + 3, none⟩ = some (.bool (l[k]'hk).el) ∧ w.cell? ⟨g, k * 5 + 4, none⟩ = some (l[k]'hk).fv := by
  obtain ⟨h1, h2⟩ := h
  rcases h1.2 with ⟨rfl, hz⟩ | ⟨g, cap, cur, e, hbase, hg, r1, r2, r3, r4⟩
  · exact .inl ⟨rfl, h2.1 rfl⟩
  · subst e
    refine .inr ⟨g, cap, cur, rfl, ?_, r1, r2, hbase, hg, fun k hk => ?_⟩
    · rcases Nat.eq_zero_or_pos l.length with h0 | h0
      · have := h2.2 (List.eq_nil_of_length_eq_zero h0)
        cases this
      · exact h0
    · have hc : ∀ j u, j < 5 → (l[k]'hk).cells.toList[j]? = some u → w.cell? ⟨g, k * 5 + j, none⟩ = some u := fun j u hj hu => by
        have := h1.cells (g := g) rfl (k * 5 + j) u (by rw [pcs_at l k j hk hj]; exact hu)
        rwa [add_plain, Nat.zero_add] at this
      exact ⟨hc 0 _ (by decide) rfl, hc 1 _ (by decide) rfl, hc 2 _ (by decide) rfl, hc 3 _ (by decide) rfl, hc 4 _ (by decide) rfl⟩
theorem RecAt.not_row {w : World} {b M : Nat} {R : Rc} (h : RecAt w b M R) {g : Nat} {cur : Array Value} (hg : w.heap[g]? = some (.cells cur 39 (0, 0))) : g ≠ b ∧ g ≠ M := by
  refine ⟨fun e => ?_, fun e => ?_⟩
  · subst e; rw [h.1] at hg; cases hg
  · subst e
    obtain ⟨D, h1, _⟩ := h.2
    have := h1.no_cells hg
    cases this
theorem PkRow.turn {B b M : Nat} {w w' : World} {v : Value} {l : List Pk} {R : Rc} (h : PkRow B w v l) (hR : RecAt w b M R) (ht : Tu b M w w') : PkRow B w' v l := by
  refine ⟨⟨h.1.1, ?_⟩, h.2⟩
  rcases h.1.2 with h1 | ⟨g, cap, cur, rfl, hb, hgg, rest⟩
  · exact .inl h1
  · obtain ⟨n1, n2⟩ := hR.not_row hgg
    exact .inr ⟨g, cap, cur, rfl, hb, (ht.block g (heap_lt hgg) n1 n2).trans hgg, rest⟩
theorem PkRow.below {B : Nat} {w w' : World} {v : Value} {l : List Pk} (h : PkRow B w v l) (hb : Below w.heap.size w w') : PkRow B w' v l :=
  ⟨h.1.kept (grown_below (r := none) hb) (by cases hv : v.ownBlock <;> simp), h.2⟩
theorem PkRow.base {B B' : Nat} {w : World} {v : Value} {l : List Pk} (h : PkRow B w v l) (hb : B' ≤ B) : PkRow B' w v l := ⟨ownsRow_base_a h.1 hb, h.2⟩
theorem RecAt.ne {w : World} {b M : Nat} {R : Rc} (h : RecAt w b M R) : b ≠ M := fun e => by
  obtain ⟨D, h1, _⟩ := h.2
  subst e
  have := h1.no_cells h.1
  cases this
theorem RecAt.below {w w' : World} {b M : Nat} {R : Rc} (h : RecAt w b M R) (hb : Below w.heap.size w w') : RecAt w' b M R := ⟨heap_below hb h.1, h.2.of_block (hb.block M h.2.lt)⟩
theorem RecAt.grown {w w' : World} {b M : Nat} {R : Rc} {r : Option Nat} (h : RecAt w b M R) (hg : w.grownBy w' r) (h1 : some b ≠ r) (h2 : some M ≠ r) : RecAt w' b M R :=
  ⟨(hg.block b (heap_lt h.1) h1).trans h.1, h.2.of_block (hg.block M h.2.lt h2)⟩
set_option maxRecDepth 100000 in
set_option maxHeartbeats 2000000 in
theorem all_any (p : Option Addr) (w : World) : Calls Tryz.prog 41 #[.pointer p] w fun e w' => e = .returned (.func (.func 56) #[] #[.pointer (some ⟨w.heap.size, 0, none⟩)]) ∧ w' = w.alloc (.cells #[.pointer p] 25) := by
  have hmf : ∀ (fn : Fn) (first cap : Array Value) (w : World), (Instr.makeFunc fn first cap).run Tryz.prog w = .ok (.func fn first cap) w := fun _ _ _ _ => rfl
  go_enter Tryz.func41, Tryz.ntmps41
  go_wp2
  go_ret
  exact ⟨rfl, rfl⟩
/-- the condition f, as the closure k over lb, wherever nothing that lay in w has turned -/
def Wants (w : World) (k : Nat) (lb : Array Value) (f : Pk → Bool) (l : List Pk) : Prop :=
  ∀ p ∈ l, ∀ W, Below w.heap.size w W → Calls Tryz.prog k (#[p.val] ++ lb) W fun e W' => e = .returned (.bool (f p)) ∧ Below W.heap.size W W'
theorem Wants.below {w w' : World} {k : Nat} {lb : Array Value} {f : Pk → Bool} {l : List Pk} (h : Wants w k lb f l) (hb : Below w.heap.size w w') : Wants w' k lb f l := fun p hp W hW => h p hp W (btrans hb hW)
def SelPost (w : World) (l : List Pk) (e : Ending) (w' : World) : Prop := ∃ v, e = .returned v ∧ PkRow w.heap.size w' v l ∧ Below w.heap.size w w'
theorem sel_any {w : World} {b M : Nat} {R : Rc} (hR : RecAt w b M R) (ok : R.Ok) {k : Nat} {lb : Array Value} {f : Pk → Bool} (hw : Wants w k lb f R.l) (ek : ∀ args w, (callFunc k args).run Tryz.prog w = .ok (.enter k args) w) :
    Calls Tryz.prog 40 #[.func (.func 56) #[] #[.pointer (some ⟨w.heap.size, 0, none⟩)], .func (.func k) #[] lb] (w.alloc (.cells #[.pointer (some ⟨b, 0, none⟩)] 25)) (SelPost w (R.l.filter f)) := by
  obtain ⟨x1, x2, x3⟩ := box1 w (.cells #[.pointer (some ⟨b, 0, none⟩)] 25)
  have hR1 := hR.below x2
  have hl : R.l.length ≤ 1000000 := by have := ok.len; have := ok.n1; omega
  refine (filter_any R.l R.nx ok.up hl w.heap.size k lb f (w.alloc (.cells #[.pointer (some ⟨b, 0, none⟩)] 25))
    (all_stops 7 (by decide) w.heap.size b M R.nx.toNat _ R.l R.nx ok.up (by have := ok.n1; omega) hl _ (Nat.le_refl _) (by omega) (heap_lt hR1.1) hR1.2.lt (at_whole x1 0 rfl) (at_whole hR1.1 0 rfl) hR1.2)
    ek (hw.below x2)).mono ?_
  rintro e w' ⟨v, rfl, h1, h2, h3⟩
  exact ⟨v, rfl, PkRow.base ⟨h1, h2⟩ (by omega), btrans x2 h3⟩
theorem sel_nil {w : World} {k : Nat} {lb : Array Value} (f : Pk → Bool) (ek : ∀ args w, (callFunc k args).run Tryz.prog w = .ok (.enter k args) w) :
    Calls Tryz.prog 40 #[.func (.func 56) #[] #[.pointer (some ⟨w.heap.size, 0, none⟩)], .func (.func k) #[] lb] (w.alloc (.cells #[.pointer none] 25)) (SelPost w []) := by
  obtain ⟨x1, x2, x3⟩ := box1 w (.cells #[.pointer none] 25)
  refine (filter_any [] 0 ⟨by simp, by simp, by simp⟩ (by decide) w.heap.size k lb f (w.alloc (.cells #[.pointer none] 25))
    (all_nil_stops 7 (by decide) w.heap.size _ _ (by omega) (Nat.le_refl _) (at_whole x1 0 rfl))
    ek (fun p hp => by cases hp)).mono ?_
  rintro e w' ⟨v, rfl, h1, h2, h3⟩
  exact ⟨v, rfl, PkRow.base ⟨h1, h2⟩ (by omega), btrans x2 h3⟩
end Go.Proofs.YtpfkeohaaeiaaaaGreat
/- Law 13: a Tracker as plain data; the iterator over its intervals. -/
namespace Go.Proofs.YtpfkeohaaeiaaaaGreat
open Go.RowKit Go.Sort Go.Shelf
attribute [local go_sem] Oper.semAt_some
/-- a Tracker lies at block t: 17 intervals, their number, delay, floor, largest, when, count, due -/
def TkAt (w : World) (t : Nat) (zs : List Int) : Prop := zs.length = 41 ∧ w.heap[t]? = some (.cells (zs.map (Value.int .i64)).toArray 70 (0, 0))
theorem TkAt.cell {w : World} {t : Nat} {zs : List Int} (h : TkAt w t zs) (i : Nat) (hi : i < 41) : w.cell? ⟨t, i, none⟩ = some (.int .i64 (zs[i]?.getD 0)) := by
  obtain ⟨h1, h2⟩ := h
  refine at_whole h2 i ?_
  rw [List.getElem?_toArray, List.getElem?_map, List.getElem?_eq_getElem (by omega)]
  rfl
theorem TkAt.frozen {w : World} {t : Nat} {zs : List Int} (h : TkAt w t zs) (i : Nat) : w.frozen? ⟨t, i, none⟩ = false := frozen_of_row w t i _ 70 h.2
theorem TkAt.block {w w' : World} {t : Nat} {zs : List Int} (h : TkAt w t zs) (hb : w'.heap[t]? = w.heap[t]?) : TkAt w' t zs := ⟨h.1, hb.trans h.2⟩
theorem TkAt.lt {w : World} {t : Nat} {zs : List Int} (h : TkAt w t zs) : t < w.heap.size := heap_lt h.2
theorem TkAt.set {w : World} {t : Nat} {zs : List Int} (h : TkAt w t zs) (i : Nat) (x : Int) : TkAt (w.setCell ⟨t, i, none⟩ (.int .i64 x)) t (zs.set i x) := by
  refine ⟨by rw [List.length_set]; exact h.1, ?_⟩
  rw [heap_setCell_same w t i _ 70 _ h.2, List.map_set]
  simp
/-- the interval at index k, with its index -/
def ivAt (zs : List Int) (k : Nat) : Nat × Int × Int := (k, zs[k * 2]?.getD 0, zs[k * 2 + 1]?.getD 0)
def encIv (x : Nat × Int × Int) : Array Value := #[.int .i64 x.1, .agg #[.int .i64 x.2.1, .int .i64 x.2.2]]
def ivs (zs : List Int) (n : Nat) : List (Nat × Int × Int) := (List.range n).map (ivAt zs)
theorem ivs_succ (zs : List Int) (n : Nat) : ivs zs (n + 1) = ivs zs n ++ [ivAt zs n] := by simp [ivs, List.range_succ]
theorem ivs_pre (zs : List Int) {k n : Nat} (h : k ≤ n) : ivs zs k <+: ivs zs n := by
  obtain ⟨d, rfl⟩ := Nat.exists_eq_add_of_le h
  refine ⟨(List.range d).map (fun i => ivAt zs (k + i)), ?_⟩
  simp [ivs, List.range_add]
/-- the iterator's own box and the Tracker stay -/
def KpT (B t : Nat) (W W' : World) : Prop := W'.heap[B]? = W.heap[B]? ∧ W'.heap[t]? = W.heap[t]?
theorem KpT.refl (B t : Nat) (W : World) : KpT B t W W := ⟨rfl, rfl⟩
theorem KpT.trans {B t : Nat} {a b c : World} (h : KpT B t a b) (k : KpT B t b c) : KpT B t a c := ⟨k.1.trans h.1, k.2.trans h.2⟩
theorem KpT.below {B t n : Nat} {a b : World} (h : Below n a b) (hB : B < n) (ht : t < n) : KpT B t a b := ⟨h.block B hB, h.block t ht⟩
theorem kpT_b {B t m : Nat} (hB : B < m) (ht : t < m) (W : World) (l : Nat) (o o' : Obj) (hl : m ≤ l) (h : W.heap[l]? = some o) (_hc : o.isCells = false) (_hw : o.isWalk = false) : KpT B t W (W.putObj l o') :=
  ⟨(grownBy_putObj' W l o').block B (by have := (Array.getElem?_eq_some_iff.1 h).1; omega) (fun e => by cases e; omega), (grownBy_putObj' W l o').block t (by have := (Array.getElem?_eq_some_iff.1 h).1; omega) (fun e => by cases e; omega)⟩
set_option maxRecDepth 100000 in
set_option maxHeartbeats 4000000 in
theorem iv_in (n : Nat) (hn : 2 ≤ n) (ly B t m : Nat) (zs : List Int) (hm : m ≤ 17) (J Jx : List (Nat × Int × Int) → World → Prop)
    (hY : ∀ pre x W, x ∈ ivs zs m → J pre W → pre.length < m → YieldAt Fence.wide (n - 1) Tryz.prog ly (encIv x) W fun e W' =>
      (e = .returned (.bool true) ∧ J (pre ++ [x]) W' ∧ KpT B t W W') ∨ (e = .returned (.bool false) ∧ Jx (pre ++ [x]) W'))
    (W : World) (hB : W.cell? ⟨B, 0, none⟩ = some (.pointer (some ⟨t, 0, none⟩))) (hT : TkAt W t zs) (hz : zs[34]?.getD (0:Int) = (m:Int)) (h0 : J [] W) :
    CallsIn Fence.wide n Tryz.prog 48 #[.func (.yield ly) #[] #[], .pointer (some ⟨B, 0, none⟩)] W fun e W' => (∃ v, e = .returned v) ∧
      ((∃ ys, ys = ivs zs m ∧ J ys W') ∨ (∃ pre, (∃ k, k < m ∧ pre = ivs zs (k + 1)) ∧ Jx pre W')) := by
  have c34 := hT.cell 34 (by decide)
  rw [hz] at c34
  have HT := Lib.hid hT
  have HJ := Lib.hid h0
  clear hT hz h0
  have h1n : 1 ≤ n := by omega
  refine callsIn_of_wp Tryz.func48 rfl trivial ?_ rfl
  simp only [Tryz.ntmps48, List.size_toArray, List.length_cons, List.length_nil, Nat.reduceAdd, Nat.reduceSub, Array.replicate_succ, Array.replicate_zero, List.push_toArray, List.append_toArray, List.nil_append, List.cons_append]
  gi_wp2
  gi_loopw [8] (fun i wr => ∃ k : Nat, k ≤ m ∧ i = .int .i64 k ∧ J (ivs zs k) wr ∧ KpT B t W wr) (fun i _ => m - (intOf i).toNat)
  case atStart => exact ⟨0, by omega, rfl, HJ.out, KpT.refl _ _ _⟩
  case round =>
    obtain ⟨k, hk, rfl, hJ, hb⟩ := hrel
    have cB : wr.cell? ⟨B, 0, none⟩ = some (.pointer (some ⟨t, 0, none⟩)) := (World.cell?_of_block (a := ⟨B, 0, none⟩) hb.1).trans hB
    have HB := Lib.hid hb
    have Tk : TkAt wr t zs := HT.out.block hb.2
    clear hb
    by_cases hlt : k < m
    · have d0 := Tk.cell (k * 2) (by omega)
      have d1 := Tk.cell (k * 2 + 1) (by omega)
      have hts := Lib.hid (ivs_succ zs k)
      obtain ⟨fn, tmps, assign, body, hy, hR⟩ := hY _ (ivAt zs k) wr (List.mem_map.2 ⟨k, List.mem_range.2 hlt, rfl⟩) hJ (by simp [ivs]; omega)
      simp only [encIv, ivAt] at hy
      have HR := Lib.hid hR
      clear hR hJ Tk
      generalize zs[k * 2]?.getD 0 = f0 at *
      generalize zs[k * 2 + 1]?.getD 0 = t0 at *
      have i0 : (k : Int) < (m : Int) := by omega
      gi_wp2
      refine HR.out.mono ?_
      rintro e W3 (⟨rfl, hJ3, hk3⟩ | ⟨rfl, hJx3⟩)
      · have K3 := Lib.hid (And.intro hJ3 hk3)
        clear hk3 hJ3 hy cB d0 d1
        gi_wp2
        go_roundw
        case rel => exact ⟨k + 1, by omega, by go_num, by rw [hts.out]; exact K3.out.1, HB.out.trans K3.out.2⟩
        case measure => simp [intOf]; omega
      · have K3 := Lib.hid hJx3
        clear hJx3 hy cB d0 d1
        gi_wp2
        refine bodyPost_ret (results_none rfl _ _ _) rfl ?_
        exact ⟨⟨_, rfl⟩, .inr ⟨_, ⟨k, hlt, hts.out.symm ▸ rfl⟩, K3.out⟩⟩
    · obtain rfl : k = m := by omega
      clear hlt Tk
      gi_wp2
      go_end0
      exact ⟨⟨_, rfl⟩, .inl ⟨_, rfl, hJ⟩⟩
theorem iv_stops (n : Nat) (hn : 2 ≤ n) (B t m : Nat) (zs : List Int) (hm : m ≤ 17) (W : World) (hBl : B < W.heap.size) (hB : W.cell? ⟨B, 0, none⟩ = some (.pointer (some ⟨t, 0, none⟩))) (hT : TkAt W t zs) (hz : zs[34]?.getD (0:Int) = (m:Int)) :
    SeqStopsK Fence.wide n Tryz.prog 48 #[.pointer (some ⟨B, 0, none⟩)] encIv (KpT B t) (fun ys => ys = ivs zs m) (fun pre => ∃ k, k < m ∧ pre = ivs zs (k + 1)) m W := fun ly J Jx W2 hW _ _ hY h0 => by
  refine (iv_in n hn ly B t m zs hm J Jx (fun pre x W _ h hl => hY pre x W h hl) W2 ((hW.cell (p := ⟨B, 0, none⟩) hBl).trans hB) (hT.block (hW.block t hT.lt)) hz h0).mono ?_
  rintro e W' ⟨h1, h2⟩
  exact ⟨h1, h2⟩
abbrev InIv (zs : List Int) (m : Nat) := { x : Nat × Int × Int // x ∈ ivs zs m }
theorem iv_stopsS (n : Nat) (hn : 2 ≤ n) (B t m : Nat) (zs : List Int) (hm : m ≤ 17) (W : World) (hBl : B < W.heap.size) (hB : W.cell? ⟨B, 0, none⟩ = some (.pointer (some ⟨t, 0, none⟩))) (hT : TkAt W t zs) (hz : zs[34]?.getD (0:Int) = (m:Int)) :
    SeqStopsK Fence.wide n Tryz.prog 48 #[.pointer (some ⟨B, 0, none⟩)] (fun x : InIv zs m => encIv x.1) (KpT B t) (fun ys => ys.map (·.1) = ivs zs m) (fun _ => True) m W := fun ly J Jx W2 hW _ _ hY h0 => by
  refine (iv_in n hn ly B t m zs hm (fun pre W => ∃ pre' : List (InIv zs m), pre'.map (·.1) = pre ∧ J pre' W) (fun pre W => ∃ pre' : List (InIv zs m), pre'.map (·.1) = pre ∧ Jx pre' W) ?_ W2 ((hW.cell (p := ⟨B, 0, none⟩) hBl).trans hB) (hT.block (hW.block t hT.lt)) hz ⟨[], rfl, h0⟩).mono ?_
  · rintro pre x W hx ⟨pre', rfl, hj⟩ hlen
    refine (hY pre' ⟨x, hx⟩ W hj (by simpa using hlen)).mono ?_
    rintro e W' (⟨h1, h2, h3⟩ | ⟨h1, h2⟩)
    · exact .inl ⟨h1, ⟨pre' ++ [⟨x, hx⟩], by simp, h2⟩, h3⟩
    · exact .inr ⟨h1, pre' ++ [⟨x, hx⟩], by simp, h2⟩
  · rintro e W' ⟨h1, h2⟩
    refine ⟨h1, ?_⟩
    rcases h2 with ⟨ys, rfl, ys', e, hj⟩ | ⟨pre, _, pre', _, hj⟩
    · exact .inl ⟨ys', e, hj⟩
    · exact .inr ⟨pre', trivial, hj⟩
end Go.Proofs.YtpfkeohaaeiaaaaGreat
/- A scope through which the run goes without a goto, inside a fence (the library's wp_scope_straight has no fenced twin). -/
namespace Go.Proofs.YtpfkeohaaeiaaaaGreat
theorem stepR_scope {P : Program} {b : Frame} {a : Act} {k : List Item} {cs : List Frame} {w : World} {c : Code} : step P (lone (b.atR a (.code (.scope c) :: k)) cs w) = .next (lone (b.atR a (.code c :: .inScope c :: k)) cs w) :=
  step_lone_go (by simp [stepG, stepG.exec, Frame.atR])
theorem stepR_inScope {P : Program} {b : Frame} {a : Act} {k : List Item} {cs : List Frame} {w : World} {c : Code} : step P (lone (b.atR a (.inScope c :: k)) cs w) = .next (lone (b.atR a k) cs w) :=
  step_lone_go (by simp [stepG, stepG.exec, Frame.atR])
theorem wpIn_scope_straight {F : Fence} {n : Nat} {P : Program} {Q : Exit → Act → World → Prop} {a : Act} {w : World} {c : Code} (h : c.wpIn F n P (Exit.noGoto Q) a w) : (Code.scope c).wpIn F n P Q a w := by
  intro b k cs hro hb hr
  have h0 : (lone (b.atR a (.code (.scope c) :: k)) cs w).fenced P F := fenced_calm hb hr rfl
  obtain ⟨e, a₁, w₁, hq, harr⟩ := h b (.inScope c :: k) cs hro hb hr
  cases e with
  | normal => exact ⟨.normal, a₁, w₁, hq, .head h0 stepR_scope (StepsIn.trans harr (.one (fenced_calm hb hr rfl) stepR_inScope))⟩
  | exit id =>
    have hx : exitTo id (.inScope c :: k) = exitTo id k := by simp [exitTo]
    exact ⟨.exit id, a₁, w₁, hq, fun k' hk => .head h0 stepR_scope (harr.1 k' (by rw [hx]; exact hk)),
      fun hr' hk => let ⟨k₁, h1, h2⟩ := harr.2 hr' (by rw [hx]; exact hk); ⟨k₁, h1, .head h0 stepR_scope h2⟩⟩
  | goto l => exact hq.elim
  | ret => exact ⟨_, a₁, w₁, hq, .of_steps (.one h0 stepR_scope) harr⟩
  | panic ch => exact ⟨_, a₁, w₁, hq, .of_steps (.one h0 stepR_scope) harr⟩
  | outgrown => exact ⟨_, a₁, w₁, hq, .of_steps (.one h0 stepR_scope) harr⟩
end Go.Proofs.YtpfkeohaaeiaaaaGreat
/- Law 13: has and place. -/
namespace Go.Proofs.YtpfkeohaaeiaaaaGreat
open Go.RowKit Go.Sort Go.Shelf
attribute [local go_sem] Oper.semAt_some
set_option maxRecDepth 100000 in
theorem all62 (p : Option Addr) (w : World) : Calls Tryz.prog 30 #[.pointer p] w fun e w' => e = .returned (.func (.func 48) #[] #[.pointer (some ⟨w.heap.size, 0, none⟩)]) ∧ w' = w.alloc (.cells #[.pointer p] 90) := by
  go_enter Tryz.func30, Tryz.ntmps30
  go_wp2
  go_ret
  exact ⟨rfl, rfl⟩
def conB (pn : Int) (x : Nat × Int × Int) : Bool := decide (x.2.1 ≤ pn) && decide (pn < x.2.2)
def hasB (pn : Int) (l : List (Nat × Int × Int)) : Bool := l.any (conB pn)
theorem hasB_snoc (pn : Int) (l : List (Nat × Int × Int)) (x : Nat × Int × Int) : hasB pn (l ++ [x]) = (hasB pn l || conB pn x) := by simp [hasB]
theorem hasB_pre {pn : Int} {l l' : List (Nat × Int × Int)} (h : l <+: l') (hb : hasB pn l = true) : hasB pn l' = true := by
  obtain ⟨t, rfl⟩ := h
  unfold hasB at *
  rw [List.any_append, hb]; rfl
theorem boxes3 (w : World) (o1 o2 o3 : Obj) : ((w.alloc o1).alloc o2).alloc o3 = ((w.alloc o1).alloc o2).alloc o3 ∧ (((w.alloc o1).alloc o2).alloc o3).heap[w.heap.size]? = some o1 ∧ (((w.alloc o1).alloc o2).alloc o3).heap[w.heap.size + 1]? = some o2 ∧ (((w.alloc o1).alloc o2).alloc o3).heap[w.heap.size + 2]? = some o3 ∧
    Below w.heap.size w (((w.alloc o1).alloc o2).alloc o3) ∧ (((w.alloc o1).alloc o2).alloc o3).heap.size = w.heap.size + 3 := by
  refine ⟨rfl, ?_, ?_, ?_, ((((Below.refl _ w).alloc (Nat.le_refl _) _).alloc (by simp) _).alloc (by simp; omega) _), by simp⟩
  · rw [Below.heap_alloc _ _ _ (by simp; omega), Below.heap_alloc _ _ _ (by simp)]; exact heap_alloc_new w _
  · rw [Below.heap_alloc _ _ _ (by simp)]; have := heap_alloc_new (w.alloc o1) o2; rwa [World.size_alloc] at this
  · have := heap_alloc_new ((w.alloc o1).alloc o2) o3; rwa [World.size_alloc, World.size_alloc] at this
set_option maxRecDepth 100000 in
set_option maxHeartbeats 4000000 in
theorem has_any (t m : Nat) (zs : List Int) (pn : Int) (w : World) (hT : TkAt w t zs) (hm : m ≤ 17) (hz : zs[34]?.getD (0:Int) = (m:Int)) :
    Calls Tryz.prog 26 #[.pointer (some ⟨t, 0, none⟩), .int .i64 pn] w fun e w' => e = .returned (.bool (hasB pn (ivs zs m))) ∧ Below w.heap.size w w' := by
  have X := Lib.hid (boxes3 w (.cells #[.int .i64 pn] 3) (.cells #[.bool false] 4) (.cells #[.pointer (some ⟨t, 0, none⟩)] 90))
  have HT := Lib.hid (And.intro hT hz)
  clear hT hz
  refine (callsIn_wide (n := 8)).1 ?_
  refine callsIn_of_wp_marks Tryz.func26 rfl trivial ?_ rfl
  simp only [Tryz.ntmps26, List.size_toArray, List.length_cons, List.length_nil, Nat.reduceAdd, Nat.reduceSub, Array.replicate_succ, Array.replicate_zero, List.push_toArray, List.append_toArray, List.nil_append, List.cons_append]
  gi_wp2_with (refine ⟨trivial, (callsIn_wide.2 (all62 _ _)).mono ?_⟩; rintro e w' ⟨rfl, rfl⟩)
  generalize ((w.alloc _).alloc _).alloc _ = W0 at X ⊢
  obtain ⟨_, X1, X2, X3, X4, X5⟩ := X.out
  refine wpIn_rangeFunc_ownH rfl (by decide) (gf := 48) (lb := #[.pointer (some ⟨w.heap.size + 2, 0, none⟩)]) rfl trivial (enters_of Tryz.func48 (by kernel_rfl) rfl)
    (iv_stops 7 (by decide) (w.heap.size + 2) t m zs hm W0 (by omega) (at_whole X3 0 rfl) (HT.out.1.block (X4.block t HT.out.1.lt)) HT.out.2)
    (fun h k => h.trans k) (kpT_b (by omega) (by have := HT.out.1.lt; omega)) (Below.refl _ _) (fun _ => rfl)
    (fun pre W => (W.heap[w.heap.size]? = some (.cells #[.int .i64 pn] 3 (0, 0)) ∧ (W.heap[w.heap.size + 2]? = some (.cells #[.pointer (some ⟨t, 0, none⟩)] 90 (0, 0)) ∧ (W.heap[w.heap.size + 1]? = some (.cells #[.bool false] 4 (0, 0)) ∧ hasB pn pre = false))) ∧ Below w.heap.size w W)
    (fun c pre W => (W.heap[w.heap.size + 1]? = some (.cells #[.bool true] 4 (0, 0)) ∧ (c = .ret ∧ hasB pn pre = true)) ∧ Below w.heap.size w W)
    (OwnFrom.and (OwnFrom.and (heap_own _ _ _ _) (OwnFrom.and (heap_own _ _ _ _) (OwnFrom.and (heap_own _ _ _ _) (fun s _ _ _ hs _ _ => hs)))) (ownFrom_below (Nat.le_refl _) (by omega)))
    (fun c => OwnFrom.and (OwnFrom.and (heap_own _ _ _ _) (fun s _ _ _ hs _ _ => hs)) (ownFrom_below (Nat.le_refl _) (by omega)))
    ⟨⟨X1, X3, X2, rfl⟩, X4⟩
    (fun x a' W => ∃ Bx, W0.heap.size ≤ Bx ∧ W.heap[Bx]? = some (.cells #[.int .i64 x.2.1, .int .i64 x.2.2] 54 (0, 0)) ∧ a' = { tmps := #[.pointer (some ⟨t, 0, none⟩), .int .i64 pn, undef, .pointer (some ⟨w.heap.size, 0, none⟩), .pointer (some ⟨w.heap.size + 1, 0, none⟩), undef, .pointer (some ⟨Bx, 0, none⟩), .pointer (some ⟨t, 0, none⟩), .func (.func 48) #[] #[.pointer (some ⟨w.heap.size + 2, 0, none⟩)], .int .i64 x.1, .agg #[.int .i64 x.2.1, .int .i64 x.2.2], undef, undef, undef, undef, undef, undef, undef, undef, undef, undef], defers := [] })
    (fun x a' s A C row hs hg hr => by
      obtain ⟨Bx, h1, h2, h3⟩ := hs
      exact ⟨Bx, h1, heap_own _ _ _ _ () A C row h2 hg hr, h3⟩)
    ?assign ?body ?done ?stop
  case assign =>
    rintro ly pre ⟨k, f, tt⟩ W K hi hK
    simp only [encIv] at hK ⊢
    have H1 := Lib.hid (And.intro hi hK)
    clear hi hK
    gi_wp2
    obtain ⟨⟨q1, q2, q3, q4⟩, q5⟩ := H1.out.1
    have hs := heap_lt q2
    have ht := HT.out.1.lt
    refine H1.out.2 _ _ ((KeepsOthers.alloc _ _).from _) (KpT.below ((Below.refl _ W).alloc (Nat.le_refl _) _) (by omega) (by omega)) ?_ ⟨W.heap.size, by omega, heap_alloc_new W _, rfl⟩
    exact ⟨⟨(Below.heap_alloc W _ _ (heap_lt q1)).trans q1, (Below.heap_alloc W _ _ (heap_lt q2)).trans q2, (Below.heap_alloc W _ _ (heap_lt q3)).trans q3, q4⟩, q5.trans ((Below.refl _ W).alloc q5.size _)⟩
  case body =>
    rintro ly pre ⟨k, f, tt⟩ a' W hl ⟨r, hr⟩ ⟨⟨q1, q2, q3, q4⟩, q5⟩ ⟨Bx, hBx, hbx, rfl⟩ hlen
    simp only at hbx ⊢
    have l0 := at_whole hbx 0 rfl
    have l1 := at_whole hbx 1 rfl
    have c0 := at_whole q1 0 rfl
    have c1 := at_whole q3 0 rfl
    have z1 := frozen_of_row W (w.heap.size + 1) 0 _ 4 q3
    simp only [List.getElem_toArray, List.getElem_cons_zero, List.getElem_cons_succ] at l0 l1 c0 c1
    have AS := Lib.hid (hasB_snoc pn pre (k, f, tt))
    have G := Lib.hid (And.intro q1 (And.intro q2 (And.intro q3 (And.intro q4 q5))))
    clear q1 q2 q3 q4 q5 hbx
    by_cases h1 : f ≤ pn
    · by_cases h2 : pn < tt
      · have e : Hid (conB pn (k, f, tt) = true) := Lib.hid (by simp [conB, h1, h2])
        gi_wp2
        refine ⟨(KeepsOthers.setCell _ _ _).from _, ⟨⟨?_, rfl, by rw [AS.out, e.out, Bool.or_true]⟩, G.out.2.2.2.2.setCell (p := ⟨w.heap.size + 1, 0, none⟩) (by simp) _⟩⟩
        exact heap_setCell_same W (w.heap.size + 1) 0 _ 4 _ G.out.2.2.1
      · have e : Hid (conB pn (k, f, tt) = false) := Lib.hid (by simp [conB, h2])
        gi_wp2
        exact ⟨(KeepsOthers.refl _).from _, KpT.refl _ _ _, ⟨⟨G.out.1, G.out.2.1, G.out.2.2.1, by rw [AS.out, e.out, G.out.2.2.2.1]; rfl⟩, G.out.2.2.2.2⟩⟩
    · have e : Hid (conB pn (k, f, tt) = false) := Lib.hid (by simp [conB, h1])
      gi_wp2
      exact ⟨(KeepsOthers.refl _).from _, KpT.refl _ _ _, ⟨⟨G.out.1, G.out.2.1, G.out.2.2.1, by rw [AS.out, e.out, G.out.2.2.2.1]; rfl⟩, G.out.2.2.2.2⟩⟩
  case done => 
    rintro D ys W hD rfl ⟨⟨q1, q2, q3, q4⟩, q5⟩ hK
    have H := Lib.hid (And.intro q3 (And.intro q4 (And.intro q5 hK)))
    have c1 := at_whole q3 0 rfl
    have z1 := frozen_of_row W (w.heap.size + 1) 0 _ 4 q3
    simp only [List.getElem_toArray, List.getElem_cons_zero] at c1
    clear q1 q2 q3 q4 q5 hK
    gi_wp2
    refine ⟨by simp, .inl ⟨_, _, rfl, run_takeDeferred ((KeepsOthers.setCell _ _ _).same D _ H.out.2.2.2 rfl), ?_⟩⟩
    have hD2 : w.heap.size + 1 ≠ D := by omega
    have hc := at_whole ((World.putObj_heap_other (w := W.setCell ⟨w.heap.size + 1, 0, none⟩ (.bool false)) (o := .deferred none) hD2).trans (heap_setCell_same W (w.heap.size + 1) 0 _ 4 (.bool false) H.out.1)) 0 rfl
    refine ⟨.bool false, by simp [results, Tryz.f26, go_sem, hc], ?_, ?_⟩
    · rw [H.out.2.1]
    · have hb := H.out.2.2.1.setCell (p := ⟨w.heap.size + 1, 0, none⟩) (by simp) (.bool false)
      exact hb.trans (belowK_b (w := w) (Nat.le_refl _) _ D _ _ (by omega) ((KeepsOthers.setCell W ⟨w.heap.size + 1, 0, none⟩ (.bool false)).same D _ H.out.2.2.2 rfl) rfl rfl)
  case stop =>
    rintro D c pre W hD ⟨k, hk, rfl⟩ ⟨⟨q1, rfl, q2⟩, q3⟩ hK
    have H := Lib.hid (And.intro q1 (And.intro q2 (And.intro q3 hK)))
    have c1 := at_whole q1 0 rfl
    simp only [List.getElem_toArray, List.getElem_cons_zero] at c1
    clear q1 q2 q3 hK
    gi_wp2
    refine ⟨by simp, .inl ⟨_, _, rfl, run_takeDeferred H.out.2.2.2, ?_⟩⟩
    have hD2 : w.heap.size + 1 ≠ D := by omega
    have hc := at_whole ((World.putObj_heap_other (w := W) (o := .deferred none) hD2).trans H.out.1) 0 rfl
    refine ⟨.bool true, by simp [results, Tryz.f26, go_sem, hc], ?_, ?_⟩
    · rw [hasB_pre (ivs_pre zs (show k + 1 ≤ m by omega)) H.out.2.1]
    · exact H.out.2.2.1.trans (belowK_b (w := w) (Nat.le_refl _) _ D _ _ (by omega) H.out.2.2.2 rfl rfl)
end Go.Proofs.YtpfkeohaaeiaaaaGreat
/- Law 13: place. -/
namespace Go.Proofs.YtpfkeohaaeiaaaaGreat
open Go.RowKit Go.Sort Go.Shelf
attribute [local go_sem] Oper.semAt_some
def lowB (pn : Int) (l : List (Nat × Int × Int)) : Bool := l.all (fun x => decide (x.2.2 < pn))
theorem lowB_snoc {pn : Int} {l : List (Nat × Int × Int)} {x : Nat × Int × Int} (h : lowB pn l = true) (hx : x.2.2 < pn) : lowB pn (l ++ [x]) = true := by
  unfold lowB at *
  rw [List.all_append, h]
  simp [hx]
theorem lowB_at {pn : Int} {zs : List Int} {n : Nat} (h : lowB pn (ivs zs n) = true) (j : Nat) (hj : j < n) : zs[j * 2 + 1]?.getD 0 < pn := by
  have := List.all_eq_true.1 h (ivAt zs j) (List.mem_map.2 ⟨j, List.mem_range.2 hj, rfl⟩)
  exact of_decide_eq_true this
/-- where a number is put -/
def PlacePost (zs : List Int) (m : Nat) (pn : Int) (w : World) (e : Ending) (w' : World) : Prop :=
  ∃ k : Nat, k ≤ m ∧ e = .returned (.int .i64 k) ∧ lowB pn (ivs zs k) = true ∧ (k < m → pn ≤ zs[k * 2 + 1]?.getD 0) ∧ Below w.heap.size w w'
set_option maxRecDepth 100000 in
set_option maxHeartbeats 4000000 in
theorem place_any (t m : Nat) (zs : List Int) (pn : Int) (w : World) (hT : TkAt w t zs) (hm : m ≤ 17) (hz : zs[34]?.getD (0:Int) = (m:Int)) :
    Calls Tryz.prog 47 #[.pointer (some ⟨t, 0, none⟩), .int .i64 pn] w (PlacePost zs m pn w) := by
  have X := Lib.hid (boxes3 w (.cells #[.int .i64 pn] 3) (.cells #[.int .i64 m] 3) (.cells #[.pointer (some ⟨t, 0, none⟩)] 90))
  have y34 := hT.cell 34 (by decide)
  rw [hz] at y34
  have y35 := cell_alloc_l (.cells #[.int .i64 pn] 3) y34
  have HT := Lib.hid (And.intro hT hz)
  clear hT hz
  refine (callsIn_wide (n := 8)).1 ?_
  refine callsIn_of_wp_marks Tryz.func47 rfl trivial ?_ rfl
  simp only [Tryz.ntmps47, List.size_toArray, List.length_cons, List.length_nil, Nat.reduceAdd, Nat.reduceSub, Array.replicate_succ, Array.replicate_zero, List.push_toArray, List.append_toArray, List.nil_append, List.cons_append]
  gi_wp2
  refine wpIn_scope_straight ?_
  gi_wp2
  refine wpIn_label ?_
  rw [show ∀ (K : Act → World → Prop) Q a w, Exit.then K Q .normal a w = K a w from fun _ _ _ _ => rfl]
  gi_wp2_with (refine ⟨trivial, (callsIn_wide.2 (all62 _ _)).mono ?_⟩; rintro e w' ⟨rfl, rfl⟩)
  generalize ((w.alloc _).alloc _).alloc _ = W0 at X ⊢
  obtain ⟨_, X1, X2, X3, X4, X5⟩ := X.out
  clear y34 y35
  refine wpIn_rangeFunc_ownH rfl (by decide) (gf := 48) (lb := #[.pointer (some ⟨w.heap.size + 2, 0, none⟩)]) rfl trivial (enters_of Tryz.func48 (by kernel_rfl) rfl)
    (iv_stops 7 (by decide) (w.heap.size + 2) t m zs hm W0 (by omega) (at_whole X3 0 rfl) (HT.out.1.block (X4.block t HT.out.1.lt)) HT.out.2)
    (fun h k => h.trans k) (kpT_b (by omega) (by have := HT.out.1.lt; omega)) (Below.refl _ _) (fun _ => rfl)
    (fun pre W => (W.heap[w.heap.size]? = some (.cells #[.int .i64 pn] 3 (0, 0)) ∧ (W.heap[w.heap.size + 2]? = some (.cells #[.pointer (some ⟨t, 0, none⟩)] 90 (0, 0)) ∧ (W.heap[w.heap.size + 1]? = some (.cells #[.int .i64 m] 3 (0, 0)) ∧ lowB pn pre = true))) ∧ Below w.heap.size w W)
    (fun c pre W => ((∃ pre' x, W.heap[w.heap.size + 1]? = some (.cells #[.int .i64 (x : Nat × Int × Int).1] 3 (0, 0)) ∧ pre = pre' ++ [x] ∧ lowB pn pre' = true ∧ pn ≤ x.2.2) ∧ c = .exit 0) ∧ Below w.heap.size w W)
    (OwnFrom.and (OwnFrom.and (heap_own _ _ _ _) (OwnFrom.and (heap_own _ _ _ _) (OwnFrom.and (heap_own _ _ _ _) (fun s _ _ _ hs _ _ => hs)))) (ownFrom_below (Nat.le_refl _) (by omega)))
    (fun c => OwnFrom.and (OwnFrom.and (fun s A C row hs hg hr => by obtain ⟨p', x, h1, h2⟩ := hs; exact ⟨p', x, heap_own _ _ _ _ () A C row h1 hg hr, h2⟩) (fun s _ _ _ hs _ _ => hs)) (ownFrom_below (Nat.le_refl _) (by omega)))
    ⟨⟨X1, X3, X2, rfl⟩, X4⟩
    (fun x a' W => ∃ Bx, W0.heap.size ≤ Bx ∧ W.heap[Bx]? = some (.cells #[.int .i64 x.2.1, .int .i64 x.2.2] 54 (0, 0)) ∧ a' = { tmps := #[.pointer (some ⟨t, 0, none⟩), .int .i64 pn, undef, .pointer (some ⟨w.heap.size, 0, none⟩), .int .i64 0, .pointer (some ⟨w.heap.size + 1, 0, none⟩), .int .i64 x.1, .pointer (some ⟨Bx, 0, none⟩), .pointer (some ⟨t, 0, none⟩), .pointer (some ⟨t, 0, none⟩), .pointer (some ⟨t, 34, none⟩), .int .i64 m, .pointer (some ⟨t, 0, none⟩), .func (.func 48) #[] #[.pointer (some ⟨w.heap.size + 2, 0, none⟩)], .int .i64 x.1, .agg #[.int .i64 x.2.1, .int .i64 x.2.2], undef, undef, undef, undef, undef, undef], defers := [] })
    (fun x a' s A C row hs hg hr => by
      obtain ⟨Bx, h1, h2, h3⟩ := hs
      exact ⟨Bx, h1, heap_own _ _ _ _ () A C row h2 hg hr, h3⟩)
    ?assign ?body ?done ?stop
  case assign =>
    rintro ly pre ⟨k, f, tt⟩ W K hi hK
    simp only [encIv] at hK ⊢
    have H1 := Lib.hid (And.intro hi hK)
    clear hi hK
    gi_wp2
    obtain ⟨⟨q1, q2, q3, q4⟩, q5⟩ := H1.out.1
    have hs := heap_lt q2
    have ht := HT.out.1.lt
    refine H1.out.2 _ _ ((KeepsOthers.alloc _ _).from _) (KpT.below ((Below.refl _ W).alloc (Nat.le_refl _) _) (by omega) (by omega)) ?_ ⟨W.heap.size, by omega, heap_alloc_new W _, rfl⟩
    exact ⟨⟨(Below.heap_alloc W _ _ (heap_lt q1)).trans q1, (Below.heap_alloc W _ _ (heap_lt q2)).trans q2, (Below.heap_alloc W _ _ (heap_lt q3)).trans q3, q4⟩, q5.trans ((Below.refl _ W).alloc q5.size _)⟩
  case body =>
    rintro ly pre ⟨k, f, tt⟩ a' W hl ⟨r, hr⟩ ⟨⟨q1, q2, q3, q4⟩, q5⟩ ⟨Bx, hBx, hbx, rfl⟩ hlen
    simp only at hbx ⊢
    have l0 := at_whole hbx 0 rfl
    have l1 := at_whole hbx 1 rfl
    have c0 := at_whole q1 0 rfl
    have c1 := at_whole q3 0 rfl
    have z1 := frozen_of_row W (w.heap.size + 1) 0 _ 3 q3
    simp only [List.getElem_toArray, List.getElem_cons_zero, List.getElem_cons_succ] at l0 l1 c0 c1
    have G := Lib.hid (And.intro q1 (And.intro q2 (And.intro q3 (And.intro q4 q5))))
    clear q1 q2 q3 q4 q5 hbx
    by_cases h2 : pn ≤ tt
    · have h2' := Lib.hid h2
      gi_wp2
      refine ⟨(KeepsOthers.setCell _ _ _).from _, ⟨⟨pre, (k, f, tt), ?_, rfl, G.out.2.2.2.1, h2'.out⟩, rfl⟩, G.out.2.2.2.2.setCell (p := ⟨w.heap.size + 1, 0, none⟩) (by simp) _⟩
      exact heap_setCell_same W (w.heap.size + 1) 0 _ 3 _ G.out.2.2.1
    · have e := Lib.hid (lowB_snoc (x := (k, f, tt)) G.out.2.2.2.1 (by show tt < pn; omega))
      gi_wp2
      exact ⟨(KeepsOthers.refl _).from _, KpT.refl _ _ _, ⟨⟨G.out.1, G.out.2.1, G.out.2.2.1, e.out⟩, G.out.2.2.2.2⟩⟩
  case done =>
    rintro D ys W hD rfl ⟨⟨q1, q2, q3, q4⟩, q5⟩ hK
    have H := Lib.hid (And.intro q3 (And.intro q4 (And.intro q5 hK)))
    have c1 := at_whole q3 0 rfl
    simp only [List.getElem_toArray, List.getElem_cons_zero] at c1
    clear q1 q2 q3 q4 q5 hK
    gi_wp2
    refine ⟨by simp, .inl ⟨_, _, rfl, run_takeDeferred H.out.2.2.2, ?_⟩⟩
    exact ⟨_, results_tmp rfl _ _ _, m, Nat.le_refl _, rfl, H.out.2.1, fun h => absurd h (Nat.lt_irrefl _), H.out.2.2.1.trans (belowK_b (w := w) (Nat.le_refl _) _ D _ _ (by omega) H.out.2.2.2 rfl rfl)⟩
  case stop =>
    rintro D c pre W hD ⟨k, hk, rfl⟩ ⟨⟨⟨pre', x, q1, e, q2, q3⟩, rfl⟩, q5⟩ hK
    rw [ivs_succ] at e
    obtain ⟨e1, e2⟩ := List.append_inj' e rfl
    obtain rfl : ivAt zs k = x := by simpa using e2
    subst e1
    simp only [ivAt] at q1 q3
    have H := Lib.hid (And.intro q1 (And.intro q2 (And.intro q3 (And.intro q5 hK))))
    have c1 := at_whole q1 0 rfl
    simp only [List.getElem_toArray, List.getElem_cons_zero] at c1
    clear q1 q2 q3 q5 hK e e2
    gi_wp2
    refine ⟨by simp, .inl ⟨_, _, rfl, run_takeDeferred H.out.2.2.2.2, ?_⟩⟩
    exact ⟨_, results_tmp rfl _ _ _, k, by omega, rfl, H.out.2.1, fun _ => H.out.2.2.1, H.out.2.2.2.1.trans (belowK_b (w := w) (Nat.le_refl _) _ D _ _ (by omega) H.out.2.2.2.2 rfl rfl)⟩
end Go.Proofs.YtpfkeohaaeiaaaaGreat
/- copy where an element has several cells: nothing goes over; a row laid over a whole block. -/
namespace Go.Proofs.YtpfkeohaaeiaaaaGreat
open Go.RowKit
variable {P : Program}
theorem run_copy_noneS (w : World) (dT sT ty elem : TypeId) (d a : Option Addr) (dLen dCap sLen sCap : Nat) (hu : P.underlying dT = some (.slice elem)) (hs : ((P.info? elem).map (·.size)).isSome = true) (hn : Nat.min sLen dLen = 0) :
    (Builtin.copy_ #[dT, sT] ty #[.slice d dLen dCap, .slice a sLen sCap]).run P w = .ok (goInt 0) w := by
  cases hq : P.info? elem with
  | none => simp [hq] at hs
  | some i =>
    have hl : ∀ (x : Addr), (loadCells x 0).run P w = .ok #[] w := fun x => by simpa using run_loadCells_list (P := P) w x [] (by simp)
    cases d <;> cases a <;> simp [Builtin.copy_, run_underlying hu, Builtin.lenOf, Builtin.firstCells, sizeOf, typeInfo, hq, hn, storeCells, hl]
theorem run_copy_rowS (w : World) (dT sT ty elem : TypeId) (size n : Nat) (g o dLen dCap : Nat) (a : Addr) (sLen sCap : Nat) (cur : Array Value) (t : TypeId) (cs : List Value)
    (hu : P.underlying dT = some (.slice elem)) (hs : (P.info? elem).map (·.size) = some size)
    (hg : w.heap[g]? = some (.cells cur t (0, 0))) (hn : n = Nat.min sLen dLen) (hcs : cs.length = n * size)
    (hsrc : ∀ j v, cs[j]? = some v → w.cell? (a.add j) = some v) (hfit : o + cs.length ≤ cur.size) (h1 : ∀ v ∈ cs, v.oneCell' = true) :
    (Builtin.copy_ #[dT, sT] ty #[.slice (some ⟨g, o, none⟩) dLen dCap, .slice (some a) sLen sCap]).run P w =
      .ok (goInt n) (w.setRow g (cur.toList.take o ++ cs ++ cur.toList.drop (o + cs.length)).toArray) := by
  have hl := run_loadCells_list (P := P) w a cs hsrc
  have hst := run_storeCells_at P g o t cs 0 cur w hg (by simpa using hfit) h1
  rw [hcs] at hl
  cases hq : P.info? elem with
  | none => simp [hq] at hs
  | some i =>
    have hi : i.size = size := by simpa [hq] using hs
    simp [Builtin.copy_, run_underlying hu, Builtin.lenOf, Builtin.firstCells, sizeOf, typeInfo, hq, hi, ← hn, hl, hst]
theorem wpList_copy_noneS {w : World} {ops : Array Oper} {rest : List Oper} {o : Oper} {a : Act} {Q : Exit → Act → World → Prop} (hgd : o.guard = none) (d s : Operand) (dT sT : TypeId)
    (ho : o.op = .call { callee := .builtin .copy, args := #[d, s], argTypes := #[dT, sT] }) (elem : TypeId) (hu : P.underlying dT = some (.slice elem)) (hsz : ((P.info? elem).map (·.size)).isSome = true)
    (dp sp : Option Addr) (dLen dCap sLen sCap : Nat) (hd : a.eval d = .slice dp dLen dCap) (hs : a.eval s = .slice sp sLen sCap) (hn : Nat.min sLen dLen = 0)
    (h : wpList P ops Q rest (a.put o.dst (goInt 0)) w) : wpList P ops Q (o :: rest) a w := by
  refine wpList_plain hgd fun K hK => ?_
  have hrun := run_copy_noneS (P := P) w dT sT o.type elem dp sp dLen dCap sLen sCap hu hsz hn
  unfold Oper.wp
  simp [execOp, ho, resolve, invoke, builtin, hd, hs, hrun, Result.andThen]
  exact hK _ _ h
theorem wpList_copy_rowS {w : World} {ops : Array Oper} {rest : List Oper} {o : Oper} {a : Act} {Q : Exit → Act → World → Prop} (hgd : o.guard = none) (d s : Operand) (dT sT : TypeId)
    (ho : o.op = .call { callee := .builtin .copy, args := #[d, s], argTypes := #[dT, sT] }) (elem : TypeId) (size n : Nat) (hu : P.underlying dT = some (.slice elem)) (hsz : (P.info? elem).map (·.size) = some size)
    (g off dLen dCap : Nat) (ad : Addr) (sLen sCap : Nat) (hd : a.eval d = .slice (some ⟨g, off, none⟩) dLen dCap) (hs : a.eval s = .slice (some ad) sLen sCap)
    (cur : Array Value) (t : TypeId) (hg : w.heap[g]? = some (.cells cur t (0, 0))) (cs : List Value) (hn : n = Nat.min sLen dLen) (hcs : cs.length = n * size)
    (hsrc : ∀ j v, cs[j]? = some v → w.cell? (ad.add j) = some v) (hfit : off + cs.length ≤ cur.size) (h1 : ∀ v ∈ cs, v.oneCell' = true)
    (h : wpList P ops Q rest (a.put o.dst (goInt n)) (w.setRow g (cur.toList.take off ++ cs ++ cur.toList.drop (off + cs.length)).toArray)) : wpList P ops Q (o :: rest) a w := by
  refine wpList_plain hgd fun K hK => ?_
  rw [List.append_assoc] at h
  have hrun := run_copy_rowS (P := P) w dT sT o.type elem size n g off dLen dCap ad sLen sCap cur t cs hu hsz hg hn hcs hsrc hfit h1
  unfold Oper.wp
  simp [execOp, ho, resolve, invoke, builtin, hd, hs, hrun, Result.andThen]
  exact hK _ _ h
end Go.Proofs.YtpfkeohaaeiaaaaGreat
/- Law 13: add, where the number lies at or behind the end. -/
namespace Go.Proofs.YtpfkeohaaeiaaaaGreat
open Go.RowKit Go.Sort
/-- only the Tracker has turned -/
theorem Tu.set1 {t : Nat} (w : World) (i : Nat) (x : Value) : Tu t t w (w.setCell ⟨t, i, none⟩ x) := Tu.set w i x
def AddPost (zs' : List Int) (t : Nat) (w : World) (e : Ending) (w' : World) : Prop := e = .returned (.tuple #[]) ∧ TkAt w' t zs' ∧ Tu t t w w'
set_option maxRecDepth 100000 in
set_option maxHeartbeats 4000000 in
/-- the last interval ends just there: it is made longer -/
theorem add_end (t m : Nat) (zs : List Int) (pn : Int) (w : World) (hT : TkAt w t zs) (hm : m ≤ 16) (hz : zs[34]?.getD (0:Int) = ((m + 1 : Nat):Int)) (hl : ∀ k, k < m → zs[k * 2 + 1]?.getD 0 < pn) (he : zs[m * 2 + 1]?.getD 0 = pn) (h0 : 0 ≤ pn) (h1 : pn ≤ 281474976710656) :
    Calls Tryz.prog 27 #[.pointer (some ⟨t, 0, none⟩), .int .i64 pn] w (AddPost (zs.set (m * 2 + 1) (pn + 1)) t w) := by
  have P := Lib.hid (place_any t (m + 1) zs pn w hT (by omega) hz)
  have HT := Lib.hid (And.intro hT (And.intro hz (And.intro hl he)))
  clear hT hz hl he
  go_enter Tryz.func27, Tryz.ntmps27
  go_wp2_with fail
  refine P.out.mono ?_
  rintro e w1 ⟨k, hk, rfl, hlow, hat, hb⟩
  have ek : k = m := by
    rcases Nat.lt_trichotomy k m with h | h | h
    · have := hat (by omega); have := HT.out.2.2.1 k h; omega
    · exact h
    · have := lowB_at hlow m h; have := HT.out.2.2.2; omega
  subst ek
  have T1 := HT.out.1.block (hb.block t HT.out.1.lt)
  have y34 := T1.cell 34 (by decide)
  have y1 := T1.cell (k * 2 + 1) (by omega)
  have z1 := T1.frozen (k * 2 + 1)
  rw [HT.out.2.1] at y34
  rw [HT.out.2.2.2] at y1
  have HB := Lib.hid (And.intro T1 hb)
  have i1 : (0 : Int) ≤ (k : Int) := by omega
  have i2 : (k : Int) < ((k + 1 : Nat) : Int) := by omega
  clear hlow hat hb T1
  have i5 : (k : Int) < 17 := by omega
  go_wp2
  go_still_tail 12, (by kernel_rfl)
  have T2 : TkAt ((w1.setCell ⟨t, k * 2 + 1, none⟩ (.int .i64 (pn + 1))).drew) t (zs.set (k * 2 + 1) (pn + 1)) := HB.out.1.set _ _
  have y35 := T2.cell 34 (by decide)
  rw [List.getElem?_set_ne (by omega), HT.out.2.1] at y35
  have H2 := Lib.hid (And.intro T2 (show Tu t t w ((w1.setCell ⟨t, k * 2 + 1, none⟩ (.int .i64 (pn + 1))).drew) from ((Tu.below HB.out.2).trans (Tu.set _ _ _)).drew))
  clear T2
  go_wp2
  clear y34 y1 z1 HB
  generalize (w1.setCell _ _).drew = W1 at *
  have i3 : decide ((k : Int) + 1 < ((k + 1 : Nat) : Int)) = false := decide_eq_false (by omega)
  have i4 : IntKind.i64.wrap ((k : Int) + 1) = (k : Int) + 1 := IntWalk.i64_in _ (by omega)
  go_quiet (fail)
  go_wp2
  go_returns
  exact ⟨rfl, H2.out.1, H2.out.2.drewN _⟩
theorem slice_none (t k : Nat) (w : World) (hm : k ≤ 16) : (Instr.sliceAt 66 (.pointer (some ⟨t, 0, none⟩)) (some (.int .i64 k)) (some (.int .i64 k)) none).run Tryz.prog w = .ok (.slice (some ⟨t, k * 2, none⟩) 0 (17 - k)) w := by
  have i6 : (k : Int) ≤ 17 := by omega
  have i7 : ¬ 17 = k := by omega
  simp [go_sem, i6, i7]
theorem slice_from (t k : Nat) (hm : k ≤ 16) : ∃ dp n, ∀ w, (Instr.sliceAt 66 (.pointer (some ⟨t, 0, none⟩)) (some (.int .i64 ((k : Int) + 1))) none none).run Tryz.prog w = .ok (.slice dp n n) w := by
  have i6 : (k : Int) + 1 ≤ 17 := by omega
  have i7 : (0 : Int) ≤ (k : Int) + 1 := by omega
  exact ⟨_, _, fun w => by simp [go_sem, i6, i7]; exact ⟨rfl, rfl⟩⟩
set_option maxRecDepth 100000 in
set_option maxHeartbeats 4000000 in
/-- a new interval behind all of them -/
theorem add_new (t m : Nat) (zs : List Int) (pn : Int) (w : World) (hT : TkAt w t zs) (hm : m ≤ 16) (hz : zs[34]?.getD (0:Int) = (m:Int)) (hl : ∀ k, k < m → zs[k * 2 + 1]?.getD 0 < pn) (h0 : 0 ≤ pn) (h1 : pn ≤ 281474976710656) :
    Calls Tryz.prog 27 #[.pointer (some ⟨t, 0, none⟩), .int .i64 pn] w (AddPost (((zs.set (m * 2) pn).set (m * 2 + 1) (pn + 1)).set 34 ((m : Int) + 1)) t w) := by
  have P := Lib.hid (place_any t m zs pn w hT (by omega) hz)
  have HT := Lib.hid (And.intro hT (And.intro hz hl))
  clear hT hz hl
  go_enter Tryz.func27, Tryz.ntmps27
  go_wp2_with fail
  refine P.out.mono ?_
  rintro e w1 ⟨k, hk, rfl, hlow, hat, hb⟩
  have ek : k = m := by
    rcases Nat.lt_or_ge k m with h | h
    · have := hat h; have := HT.out.2.2 k h; omega
    · omega
  subst ek
  have T1 := HT.out.1.block (hb.block t HT.out.1.lt)
  have y34 := T1.cell 34 (by decide)
  rw [HT.out.2.1] at y34
  have HB := Lib.hid (And.intro T1 hb)
  have i1 : (0 : Int) ≤ (k : Int) := by omega
  have i2 : ((k : Int) < (k : Int)) = False := eq_false (by omega)
  have i3 : (k : Int) ≤ 16 := by omega
  clear hlow hat hb T1
  go_wp2
  have i4 : IntKind.i64.wrap ((k : Int) + 1) = (k : Int) + 1 := IntWalk.i64_in _ (by omega)
  have i5 : (k : Int) + 1 ≤ 17 := by omega
  have hsl : ∀ w, (Instr.sliceAt 66 (.pointer (some ⟨t, 0, none⟩)) (some (.int .i64 k)) (some (.int .i64 k)) none).run Tryz.prog w = .ok (.slice (some ⟨t, k * 2, none⟩) 0 (17 - k)) w := fun w => slice_none t k w hm
  obtain ⟨dp, dn, hsl2⟩ := slice_from t k hm
  go_still_tail 15, (by kernel_rfl)
  refine wpList_copy_noneS rfl (.tmp 115) (.tmp 124) 41 41 rfl 54 Tryz.underlying41 (by kernel_rfl) dp (some ⟨t, k * 2, none⟩) dn dn 0 (17 - k) rfl rfl (by simp) ?_
  have T2 : TkAt w1 t zs := HB.out.1
  have T3 : TkAt w1.drew t zs := HB.out.1
  have H2 := Lib.hid (And.intro T3 (show Tu t t w w1.drew from (Tu.below HB.out.2).drew))
  clear y34 T3
  have y0 := T2.cell (k * 2) (by omega)
  have y1 := T2.cell (k * 2 + 1) (by omega)
  have y34 := T2.cell 34 (by decide)
  rw [HT.out.2.1] at y34
  have z0 := T2.frozen (k * 2)
  have z1 := T2.frozen (k * 2 + 1)
  have z34 := T2.frozen 34
  have i8 : ¬ k * 2 = 34 := by omega
  have i9 : ¬ k * 2 + 1 = 34 := by omega
  have i10 : ¬ 34 = k * 2 := by omega
  have i11 : ¬ 34 = k * 2 + 1 := by omega
  have i12 : (k : Int) < 17 := by omega
  clear T2 hsl hsl2 HB i2
  go_wp2
  go_returns
  exact ⟨rfl, ((H2.out.1.set _ _).set _ _).set _ _, ((H2.out.2.trans (Tu.set _ _ _)).trans (Tu.set _ _ _)).trans (Tu.set _ _ _)⟩
end Go.Proofs.YtpfkeohaaeiaaaaGreat
/- Law 13: schedule, Receive (in order), New. -/
namespace Go.Proofs.YtpfkeohaaeiaaaaGreat
open Go.RowKit Go.Sort
theorem TkAt.same {w : World} {t : Nat} {zs : List Int} (h : TkAt w t zs) (i : Nat) (x : Int) (hx : zs[i]?.getD 0 = x) (hi : i < 41) : zs.set i x = zs := by
  have : i < zs.length := by rw [h.1]; exact hi
  rw [List.getElem?_eq_getElem this] at hx
  have hx : zs[i] = x := hx
  rw [← hx]
  exact List.set_getElem_self this
def SchedPost (zs : List Int) (t : Nat) (w w' : World) : Prop :=
  ∃ c d : Int, TkAt w' t ((zs.set 39 c).set 40 d) ∧ 0 ≤ c ∧ c ≤ zs[39]?.getD (0:Int) + 1 ∧ -1 ≤ d ∧ d ≤ 4000000000000 ∧ Tu t t w w'
set_option maxRecDepth 100000 in
set_option maxHeartbeats 4000000 in
theorem sched_any (t : Nat) (zs : List Int) (now : Int) (od : Bool) (w : World) (hT : TkAt w t zs) (dl : Int) (e1 : zs[35]?.getD (0:Int) = dl) (hd1 : 0 ≤ dl) (hd2 : dl ≤ 20) (c : Int) (e2 : zs[39]?.getD (0:Int) = c) (hc1 : 0 ≤ c) (hc2 : c ≤ 1000000000)
    (d : Int) (e3 : zs[40]?.getD (0:Int) = d) (hu1 : -1 ≤ d) (hu2 : d ≤ 4000000000000) (hn1 : 0 ≤ now) (hn2 : now ≤ 1099511627776) :
    Calls Tryz.prog 29 #[.pointer (some ⟨t, 0, none⟩), .int .i64 now, .bool od] w fun e w' => e = .returned (.tuple #[]) ∧ SchedPost zs t w w' := by
  have y35 := hT.cell 35 (by decide)
  have y39 := hT.cell 39 (by decide)
  have y40 := hT.cell 40 (by decide)
  have z39 := hT.frozen 39
  have z40 := hT.frozen 40
  have fin1 : ∀ x : Int, -1 ≤ x → x ≤ 4000000000000 → SchedPost zs t w ((w.setCell ⟨t, 39, none⟩ (.int .i64 (c + 1))).setCell ⟨t, 40, none⟩ (.int .i64 x)) := fun x h1 h2 =>
    ⟨c + 1, x, (hT.set 39 _).set 40 _, by omega, by omega, h1, h2, (Tu.set _ _ _).trans (Tu.set _ _ _)⟩
  have fin2 : SchedPost zs t w (w.setCell ⟨t, 39, none⟩ (.int .i64 (c + 1))) :=
    ⟨c + 1, d, by rw [(hT.set 39 (c + 1)).same 40 d (by rw [List.getElem?_set_ne (by decide)]; exact e3) (by decide)]; exact hT.set 39 _, by omega, by omega, hu1, hu2, Tu.set _ _ _⟩
  have F1 := Lib.hid fin1
  have F2 := Lib.hid fin2
  rw [e1] at y35
  rw [e2] at y39
  rw [e3] at y40
  clear fin1 fin2 hT e1 e2 e3
  by_cases h1 : c + 1 < 2
  · cases od with
    | true =>
      by_cases h2 : d = -1
      · subst h2
        go_enter Tryz.func29, Tryz.ntmps29
        go_wp2
        go_returns
        exact ⟨rfl, F1.out _ (by omega) (by omega)⟩
      · have h2' : (d == -1) = false := beq_eq_false_iff_ne.2 h2
        clear h2
        by_cases h3 : now + dl < d
        · go_enter Tryz.func29, Tryz.ntmps29
          go_wp2
          go_returns
          exact ⟨rfl, F1.out _ (by omega) (by omega)⟩
        · go_enter Tryz.func29, Tryz.ntmps29
          go_wp2
          go_returns
          exact ⟨rfl, F2.out⟩
    | false =>
      by_cases h2 : d = -1
      · subst h2
        go_enter Tryz.func29, Tryz.ntmps29
        go_wp2
        go_returns
        exact ⟨rfl, F1.out _ (by omega) (by omega)⟩
      · have h2' : (d == -1) = false := beq_eq_false_iff_ne.2 h2
        clear h2
        by_cases h3 : now < d
        · go_enter Tryz.func29, Tryz.ntmps29
          go_wp2
          go_returns
          exact ⟨rfl, F1.out _ (by omega) (by omega)⟩
        · go_enter Tryz.func29, Tryz.ntmps29
          go_wp2
          go_returns
          exact ⟨rfl, F2.out⟩
  · by_cases h2 : d = -1
    · subst h2
      go_enter Tryz.func29, Tryz.ntmps29
      go_wp2
      go_returns
      exact ⟨rfl, F1.out _ (by omega) (by omega)⟩
    · have h2' : (d == -1) = false := beq_eq_false_iff_ne.2 h2
      clear h2
      by_cases h3 : now < d
      · go_enter Tryz.func29, Tryz.ntmps29
        go_wp2
        go_returns
        exact ⟨rfl, F1.out _ (by omega) (by omega)⟩
      · go_enter Tryz.func29, Tryz.ntmps29
        go_wp2
        go_returns
        exact ⟨rfl, F2.out⟩
end Go.Proofs.YtpfkeohaaeiaaaaGreat
