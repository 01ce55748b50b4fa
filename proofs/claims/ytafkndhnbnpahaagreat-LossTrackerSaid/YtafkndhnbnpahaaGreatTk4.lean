/- Texts W X Y Z Za Zb Zc Zd of this claim, one behind the other. -/
import Derived.Test.YtafkndhnbnpahaaGreatTk2
import Derived.Test.YtafkndhnbnpahaaGreatTk3
import Derived.BigQuiet
import Derived.StillTailTactics
import Derived.WalkSpells
import Derived.Deep.RegionHeld3
/- Law 13: the conditions on packets. -/
namespace Go.Proofs.YtafkndhnbnpahaaGreat
open Go.RowKit
set_option maxRecDepth 100000 in
set_option maxHeartbeats 2000000 in
theorem want46 (p : Pk) (w : World) : Calls Tryz.prog 46 #[p.val] w fun e w' => e = .returned (.bool true) ∧ Below w.heap.size w w' := by
  simp only [Pk.val]
  go_enter Tryz.func46, Tryz.ntmps46
  go_wp2
  go_ret
  exact ⟨rfl, (Below.refl _ _).alloc (Nat.le_refl _) _⟩
set_option maxRecDepth 100000 in
set_option maxHeartbeats 2000000 in
theorem want52 (p : Pk) (w : World) : Calls Tryz.prog 52 #[p.val] w fun e w' => e = .returned (.bool true) ∧ Below w.heap.size w w' := by
  simp only [Pk.val]
  go_enter Tryz.func52, Tryz.ntmps52
  go_wp2
  go_ret
  exact ⟨rfl, (Below.refl _ _).alloc (Nat.le_refl _) _⟩
set_option maxRecDepth 100000 in
set_option maxHeartbeats 2000000 in
theorem want57 (p : Pk) (w : World) : Calls Tryz.prog 57 #[p.val] w fun e w' => e = .returned (.bool p.el) ∧ Below w.heap.size w w' := by
  simp only [Pk.val, Pk.cells]
  go_enter Tryz.func57, Tryz.ntmps57
  go_wp2
  go_ret
  exact ⟨rfl, (Below.refl _ _).alloc (Nat.le_refl _) _⟩
def dlF (lg : Int) (p : Pk) : Bool := decide (p.pn < lg)
set_option maxRecDepth 100000 in
set_option maxHeartbeats 2000000 in
theorem want50 (p : Pk) (B b : Nat) (lg : Int) (w : World) (hB : w.cell? ⟨B, 0, none⟩ = some (.pointer (some ⟨b, 0, none⟩))) (hb : w.cell? ⟨b, 2, none⟩ = some (.int .i64 lg)) :
    Calls Tryz.prog 50 #[p.val, .pointer (some ⟨B, 0, none⟩)] w fun e w' => e = .returned (.bool (dlF lg p)) ∧ Below w.heap.size w w' := by
  simp only [Pk.val, Pk.cells]
  have hBl := World.block_lt_of_cell? _ _ hB
  have hbl := World.block_lt_of_cell? _ _ hb
  have H := Lib.hid (box1 w (.cells #[.int .i64 p.pn, .int .i64 p.time, .int .i64 p.size, .bool p.el, p.fv] 32))
  have E := Lib.hid (show dlF lg p = decide (p.pn < lg) from rfl)
  go_enter Tryz.func50, Tryz.ntmps50
  go_wp2
  have c1 := at_whole H.out.1 0 rfl
  have c2 : (w.alloc (.cells #[.int .i64 p.pn, .int .i64 p.time, .int .i64 p.size, .bool p.el, p.fv] 32)).cell? ⟨B, 0, none⟩ = some (.pointer (some ⟨b, 0, none⟩)) := (H.out.2.1.cell (p := ⟨B, 0, none⟩) hBl).trans hB
  have c3 : (w.alloc (.cells #[.int .i64 p.pn, .int .i64 p.time, .int .i64 p.size, .bool p.el, p.fv] 32)).cell? ⟨b, 2, none⟩ = some (.int .i64 lg) := (H.out.2.1.cell (p := ⟨b, 2, none⟩) hbl).trans hb
  simp only [List.getElem_toArray, List.getElem_cons_zero] at c1
  generalize w.alloc _ = W at c1 c2 c3 H ⊢
  go_quiet (fail)
  go_wp2
  go_ret
  exact ⟨by rw [E.out]; rfl, belowN H.out.2.1 _⟩
def exF (lg now d : Int) (p : Pk) : Bool := decide (p.pn < lg) && (decide (p.pn + 3 ≤ lg) || decide (p.time ≤ now - d))
set_option maxRecDepth 100000 in
set_option maxHeartbeats 4000000 in
theorem want39 (p : Pk) (B3 B4 B5 b : Nat) (lg now d : Int) (w : World) (h3 : w.cell? ⟨B3, 0, none⟩ = some (.pointer (some ⟨b, 0, none⟩))) (h4 : w.cell? ⟨B4, 0, none⟩ = some (.int .i64 now)) (h5 : w.cell? ⟨B5, 0, none⟩ = some (.int .i64 d))
    (hb : w.cell? ⟨b, 2, none⟩ = some (.int .i64 lg)) (hp : 0 ≤ p.pn ∧ p.pn ≤ 281474976710656) (hn : 0 ≤ now) (hn' : now ≤ 9223372036854775807) (hd : 0 ≤ d) (hd' : d ≤ 9223372036854775807) :
    Calls Tryz.prog 39 #[p.val, .pointer (some ⟨B3, 0, none⟩), .pointer (some ⟨B4, 0, none⟩), .pointer (some ⟨B5, 0, none⟩)] w fun e w' => e = .returned (.bool (exF lg now d p)) ∧ Below w.heap.size w w' := by
  simp only [Pk.val, Pk.cells]
  have l3 := World.block_lt_of_cell? _ _ h3
  have l4 := World.block_lt_of_cell? _ _ h4
  have l5 := World.block_lt_of_cell? _ _ h5
  have lb := World.block_lt_of_cell? _ _ hb
  obtain ⟨hp0, hp1⟩ := hp
  have H := Lib.hid (box1 w (.cells #[.int .i64 p.pn, .int .i64 p.time, .int .i64 p.size, .bool p.el, p.fv] 32))
  have E := Lib.hid (show exF lg now d p = (decide (p.pn < lg) && (decide (p.pn + 3 ≤ lg) || decide (p.time ≤ now - d))) from rfl)
  have c1 := at_whole H.out.1 0 rfl
  have c1' := at_whole H.out.1 1 rfl
  have c3 : (w.alloc (.cells #[.int .i64 p.pn, .int .i64 p.time, .int .i64 p.size, .bool p.el, p.fv] 32)).cell? ⟨B3, 0, none⟩ = some (.pointer (some ⟨b, 0, none⟩)) := (H.out.2.1.cell (p := ⟨B3, 0, none⟩) l3).trans h3
  have c4 : (w.alloc (.cells #[.int .i64 p.pn, .int .i64 p.time, .int .i64 p.size, .bool p.el, p.fv] 32)).cell? ⟨B4, 0, none⟩ = some (.int .i64 now) := (H.out.2.1.cell (p := ⟨B4, 0, none⟩) l4).trans h4
  have c5 : (w.alloc (.cells #[.int .i64 p.pn, .int .i64 p.time, .int .i64 p.size, .bool p.el, p.fv] 32)).cell? ⟨B5, 0, none⟩ = some (.int .i64 d) := (H.out.2.1.cell (p := ⟨B5, 0, none⟩) l5).trans h5
  have cb : (w.alloc (.cells #[.int .i64 p.pn, .int .i64 p.time, .int .i64 p.size, .bool p.el, p.fv] 32)).cell? ⟨b, 2, none⟩ = some (.int .i64 lg) := (H.out.2.1.cell (p := ⟨b, 2, none⟩) lb).trans hb
  simp only [List.getElem_toArray, List.getElem_cons_zero, List.getElem_cons_succ] at c1 c1'
  have w1 : IntKind.i64.wrap (p.pn + 3) = p.pn + 3 := IntWalk.i64_in _ (by omega)
  have w2 : IntKind.i64.wrap (now - d) = now - d := IntWalk.i64_in _ (by omega)
  clear h3 h4 h5 hb l3 l4 l5 lb
  cases a1 : decide (p.pn < lg) with
  | false =>
    rw [a1] at E
    go_enter Tryz.func39, Tryz.ntmps39
    go_wp2
    generalize w.alloc _ = W at c1 c1' c3 c4 c5 cb H ⊢
    go_quiet (fail)
    go_wp2
    go_ret
    exact ⟨by rw [E.out]; rfl, belowN H.out.2.1 _⟩
  | true =>
    rw [a1] at E
    cases a2 : decide (p.pn + 3 ≤ lg) with
    | true =>
      rw [a2] at E
      go_enter Tryz.func39, Tryz.ntmps39
      go_wp2
      generalize w.alloc _ = W at c1 c1' c3 c4 c5 cb H ⊢
      go_quiet (fail)
      go_wp2
      go_ret
      exact ⟨by rw [E.out]; rfl, belowN H.out.2.1 _⟩
    | false =>
      rw [a2] at E
      go_enter Tryz.func39, Tryz.ntmps39
      go_wp2
      generalize w.alloc _ = W at c1 c1' c3 c4 c5 cb H ⊢
      go_quiet (fail)
      go_wp2
      go_ret
      exact ⟨by rw [E.out]; rfl, belowN H.out.2.1 _⟩
end Go.Proofs.YtafkndhnbnpahaaGreat
/- Law 13: which packets an ACK frame names. -/
namespace Go.Proofs.YtafkndhnbnpahaaGreat
open Go.RowKit
def spF (f t pn : Int) : Bool := decide (f ≤ pn) && decide (pn < t)
set_option maxRecDepth 100000 in
set_option maxHeartbeats 2000000 in
theorem in43 (f t pn : Int) (Bp : Nat) (w : World) (hp : w.cell? ⟨Bp, 0, none⟩ = some (.int .i64 pn)) :
    Calls Tryz.prog 43 #[.agg #[.int .i64 f, .int .i64 t], .pointer (some ⟨Bp, 0, none⟩)] w fun e w' => e = .returned (.bool (spF f t pn)) ∧ Below w.heap.size w w' := by
  have hl := World.block_lt_of_cell? _ _ hp
  have E := Lib.hid (show spF f t pn = (decide (f ≤ pn) && decide (pn < t)) from rfl)
  cases a1 : decide (f ≤ pn) with
  | false =>
    rw [a1] at E
    go_enter Tryz.func43, Tryz.ntmps43
    go_wp2
    go_ret
    exact ⟨by rw [E.out]; rfl, (Below.refl _ _).alloc (Nat.le_refl _) _⟩
  | true =>
    rw [a1] at E
    go_enter Tryz.func43, Tryz.ntmps43
    go_wp2
    go_ret
    exact ⟨by rw [E.out]; rfl, (Below.refl _ _).alloc (Nat.le_refl _) _⟩
/-- do the ranges from number k on name pn? -/
def inFrom (F T : Nat → Int) (pn : Int) : Nat → Nat → Bool
  | 0, _ => false
  | m + 1, k => spF (F k) (T k) pn || inFrom F T pn m (k + 1)
def inF (n : Nat) (F T : Nat → Int) (pn : Int) : Bool := (List.range n).any fun k => spF (F k) (T k) pn
def IdxPost (n : Nat) (F T : Nat → Int) (pn : Int) (w : World) (e : Ending) (w' : World) : Prop := ∃ r : Int, e = .returned (.int .i64 r) ∧ decide (0 ≤ r) = inF n F T pn ∧ Below w.heap.size w w'
set_option maxRecDepth 100000 in
set_option maxHeartbeats 4000000 in
theorem idx66 (n : Nat) (F T : Nat → Int) (pn : Int) (v : Value) (Bp : Nat) (w : World) (hn : n ≤ 1000) (hS : SpansAt w v n F T) (hp : w.cell? ⟨Bp, 0, none⟩ = some (.int .i64 pn)) :
    Calls Tryz.prog 66 #[v, .func (.func 43) #[] #[.pointer (some ⟨Bp, 0, none⟩)]] w (IdxPost n F T pn w) := by
  have hl := World.block_lt_of_cell? _ _ hp
  obtain ⟨g, o, cap, rfl, hcap, hm, hsp⟩ := hS
  have SP := Lib.hid hsp
  have HP := Lib.hid hp
  unfold maxLen at hm
  clear hsp hp
  go_enter Tryz.func66, Tryz.ntmps66
  go_wp2
  go_loopw [8] (fun i wr => ∃ k : Nat, k ≤ n ∧ i = .int .i64 k ∧ Hid (∀ j, j < k → spF (F j) (T j) pn = false) ∧ Below w.heap.size w wr) (fun i _ => n - (intOf i).toNat)
  case atStart => exact ⟨0, by omega, rfl, Lib.hid (fun j hj => by omega), Below.refl _ _⟩
  case round =>
    obtain ⟨k, hk, rfl, hno, hB⟩ := hrel
    have B := Lib.hid hB
    clear hB
    by_cases hlt : k < n
    · have s0 : wr.cell? ⟨g, o + k * 2, none⟩ = some (.int .i64 (F k)) := (B.out.cell (World.block_lt_of_cell? _ _ (SP.out k hlt).1)).trans (SP.out k hlt).1
      have s1 : wr.cell? ⟨g, o + k * 2 + 1, none⟩ = some (.int .i64 (T k)) := (B.out.cell (World.block_lt_of_cell? _ _ (SP.out k hlt).2)).trans (SP.out k hlt).2
      have C := Lib.hid (in43 (F k) (T k) pn Bp wr ((B.out.cell (p := ⟨Bp, 0, none⟩) hl).trans HP.out))
      cases hc : spF (F k) (T k) pn with
      | true =>
        rw [hc] at C
        have HC := Lib.hid hc
        clear hc
        go_wp2_with (go_at_call 43; refine C.out.mono ?_; rintro e w1 ⟨rfl, hb1⟩)
        go_ret
        refine ⟨k, rfl, ?_, B.out.trans (hb1.mono B.out.size)⟩
        have : inF n F T pn = true := List.any_eq_true.2 ⟨k, List.mem_range.2 hlt, HC.out⟩
        rw [this]; simp
      | false =>
        rw [hc] at C
        have HC := Lib.hid hc
        clear hc
        go_wp2_with (go_at_call 43; refine C.out.mono ?_; rintro e w1 ⟨rfl, hb1⟩)
        have B1 := Lib.hid (B.out.trans (hb1.mono B.out.size))
        clear hb1
        go_roundw
        case rel => exact ⟨k + 1, by omega, by go_num, Lib.hid (fun j hj => by rcases Nat.lt_succ_iff_lt_or_eq.1 hj with h | h; exact hno.out j h; rw [h]; exact HC.out), B1.out⟩
        case measure => simp [intOf]; omega
    · obtain rfl : k = n := by omega
      clear hlt
      go_wp2
      go_ret
      refine ⟨-1, rfl, ?_, B.out⟩
      have : inF k F T pn = false := by
        unfold inF
        rw [List.any_eq_false]
        intro j hj
        rw [hno.out j (List.mem_range.1 hj)]
        simp
      rw [this]; rfl
set_option maxRecDepth 100000 in
set_option maxHeartbeats 2000000 in
theorem contains42 (n : Nat) (F T : Nat → Int) (pn : Int) (v : Value) (Bp : Nat) (w : World) (hn : n ≤ 1000) (hS : SpansAt w v n F T) (hp : w.cell? ⟨Bp, 0, none⟩ = some (.int .i64 pn)) :
    Calls Tryz.prog 42 #[v, .func (.func 43) #[] #[.pointer (some ⟨Bp, 0, none⟩)]] w fun e w' => e = .returned (.bool (inF n F T pn)) ∧ Below w.heap.size w w' := by
  have C := Lib.hid (idx66 n F T pn v Bp w hn hS hp)
  obtain ⟨g, o, cap, rfl, _⟩ := hS
  clear hp
  cases hi : inF n F T pn with
  | true =>
    have H := Lib.hid hi
    clear hi
    go_enter Tryz.func42, Tryz.ntmps42
    go_wp2_with (go_at_call 66; refine C.out.mono ?_; rintro e w1 ⟨r, rfl, hr, hb⟩; rw [H.out] at hr)
    go_ret
    exact ⟨rfl, hb⟩
  | false =>
    have H := Lib.hid hi
    clear hi
    go_enter Tryz.func42, Tryz.ntmps42
    go_wp2_with (go_at_call 66; refine C.out.mono ?_; rintro e w1 ⟨r, rfl, hr, hb⟩; rw [H.out] at hr)
    go_ret
    exact ⟨rfl, hb⟩
def akF (n : Nat) (F T : Nat → Int) (p : Pk) : Bool := inF n F T p.pn
set_option maxRecDepth 100000 in
set_option maxHeartbeats 2000000 in
theorem want41 (p : Pk) (Bf n : Nat) (F T : Nat → Int) (cs : Array Value) (v : Value) (w : World) (hn : n ≤ 1000) (hS : SpansAt w v n F T) (hb : w.heap[Bf]? = some (.cells cs 41 (0, 0))) (hc : cs[9]? = some v) :
    Calls Tryz.prog 41 #[p.val, .pointer (some ⟨Bf, 0, none⟩)] w fun e w' => e = .returned (.bool (akF n F T p)) ∧ Below w.heap.size w w' := by
  simp only [Pk.val, Pk.cells, akF]
  have hl := heap_lt hb
  have H := Lib.hid (box1 w (.cells #[.int .i64 p.pn, .int .i64 p.time, .int .i64 p.size, .bool p.el, p.fv] 32))
  have C := Lib.hid (contains42 n F T p.pn v w.heap.size _ hn (hS.below H.out.2.1) (at_whole H.out.1 0 rfl))
  obtain ⟨g, o, cap, rfl, _⟩ := hS
  have c9 : (w.alloc (.cells #[.int .i64 p.pn, .int .i64 p.time, .int .i64 p.size, .bool p.el, p.fv] 32)).cell? ⟨Bf, 9, none⟩ = some (.slice (some ⟨g, o, none⟩) n cap) := (H.out.2.1.cell (p := ⟨Bf, 9, none⟩) hl).trans ((cell_whole hb 9).trans hc)
  have hmf : ∀ (fn : Fn) (first cap : Array Value) (w : World), (Instr.makeFunc fn first cap).run Tryz.prog w = .ok (.func fn first cap) w := fun _ _ _ _ => rfl
  clear hb hc
  go_enter Tryz.func41, Tryz.ntmps41
  go_wp2_with (go_at_call 42; refine C.out.mono ?_; rintro e w1 ⟨rfl, hb1⟩)
  go_ret
  exact ⟨rfl, btrans H.out.2.1 hb1⟩
end Go.Proofs.YtafkndhnbnpahaaGreat
/- Law 13: a Recovery as plain data; all, filter and remove. -/
namespace Go.Proofs.YtafkndhnbnpahaaGreat
open Go.RowKit Go.Maps
/-- a Recovery: the outstanding packets, the next number, the largest acknowledged one -/
structure Rc where
  l : List Pk
  nx : Int
  lg : Int
structure Rc.Ok (R : Rc) : Prop where
  up : Up R.nx R.l
  n0 : 0 ≤ R.nx
  n1 : R.nx ≤ 10000
  g0 : -1 ≤ R.lg
  g1 : R.lg < R.nx
  len : (R.l.length : Int) ≤ R.nx
  tm : ∀ p ∈ R.l, 0 ≤ p.time ∧ p.time ≤ 1125899906842624
def RecAt (w : World) (b M : Nat) (R : Rc) : Prop := w.heap[b]? = some (.cells #[.map (some M), .int .i64 R.nx, .int .i64 R.lg] 75 (0, 0)) ∧ MapPk w M R.nx.toNat R.l
/-- only blocks b and M have turned -/
structure Tu (b M : Nat) (w w' : World) : Prop where
  os : w'.os = w.os
  tape : w'.tape = w.tape
  output : w'.output = w.output
  size : w.heap.size ≤ w'.heap.size
  block : ∀ k, k < w.heap.size → k ≠ b → k ≠ M → w'.heap[k]? = w.heap[k]?
theorem Tu.refl (b M : Nat) (w : World) : Tu b M w w := ⟨rfl, rfl, rfl, Nat.le_refl _, fun _ _ _ _ => rfl⟩
theorem Tu.trans {b M : Nat} {u v w : World} (h : Tu b M u v) (k : Tu b M v w) : Tu b M u w :=
  ⟨k.os.trans h.os, k.tape.trans h.tape, k.output.trans h.output, Nat.le_trans h.size k.size, fun i hi h1 h2 => (k.block i (Nat.lt_of_lt_of_le hi h.size) h1 h2).trans (h.block i hi h1 h2)⟩
theorem Tu.below {b M : Nat} {u v : World} (h : Below u.heap.size u v) : Tu b M u v := ⟨h.os, h.tape, h.output, h.size, fun i hi _ _ => h.block i hi⟩
theorem Tu.drewN {b M : Nat} {u v : World} (h : Tu b M u v) (n : Nat) : Tu b M u (v.drewN n) := ⟨h.os, h.tape, h.output, h.size, h.block⟩
theorem Tu.drew {b M : Nat} {u v : World} (h : Tu b M u v) : Tu b M u v.drew := ⟨h.os, h.tape, h.output, h.size, h.block⟩
theorem Tu.map {b M : Nat} {u v : World} (h : u.grownBy v (some M)) : Tu b M u v := ⟨h.os, h.tape, h.output, h.size, fun i hi _ h2 => h.block i hi (fun e => h2 (by cases e; rfl))⟩
theorem Tu.set {b M : Nat} (u : World) (i : Nat) (x : Value) : Tu b M u (u.setCell ⟨b, i, none⟩ x) := ⟨rfl, rfl, rfl, by simp, fun k _ h1 _ => heap_setCell_other u _ k x (fun e => h1 e)⟩
theorem Tu.to_below {b M B : Nat} {u v w : World} (h : Below B u v) (k : Tu b M v w) (hb : B ≤ b) (hM : B ≤ M) (hB : B ≤ v.heap.size) : Below B u w :=
  ⟨k.os.trans h.os, k.tape.trans h.tape, k.output.trans h.output, Nat.le_trans h.size k.size, fun i hi => (k.block i (by omega) (by omega) (by omega)).trans (h.block i hi)⟩
/-- v is a slice of the call's own that holds the packets -/
def PkRow (B : Nat) (w : World) (v : Value) (l : List Pk) : Prop := w.ownsRow B 32 5 v l.length (pcs l) ∧ (v = .slice none 0 0 ↔ l = [])
theorem PkRow.form {B : Nat} {w : World} {v : Value} {l : List Pk} (h : PkRow B w v l) : (v = .slice none 0 0 ∧ l = []) ∨ ∃ g cap cur, v = .slice (some ⟨g, 0, none⟩) l.length cap ∧ 0 < l.length ∧ l.length ≤ cap ∧ cap ≤ maxLen ∧ B ≤ g ∧ w.heap[g]? = some (.cells cur 32 (0, 0)) ∧
    ∀ k (hk : k < l.length), w.cell? ⟨g, k * 5, none⟩ = some (.int .i64 (l[k]'hk).pn) ∧ w.cell? ⟨g, k * 5 + 1, none⟩ = some (.int .i64 (l[k]'hk).time) ∧ w.cell? ⟨g, k * 5 + 2, none⟩ = some (.int .i64 (l[k]'hk).size) ∧ w.cell? ⟨g, k * 5 + 3, none⟩ = some (.bool (l[k]'hk).el) ∧ w.cell? ⟨g, k * 5 + 4, none⟩ = some (l[k]'hk).fv := by
  obtain ⟨h1, h2⟩ := h
  rcases h1.2 with ⟨rfl, hz⟩ | ⟨g, cap, cur, e, hbase, hg, r1, r2, r3, r4⟩
  · exact .inl ⟨rfl, h2.1 rfl⟩
  · subst e
    refine .inr ⟨g, cap, cur, rfl, ?_, r1, r2, hbase, hg, fun k hk => ?_⟩
    · rcases Nat.eq_zero_or_pos l.length with h0 | h0
      · have := h2.2 (List.eq_nil_of_length_eq_zero h0)
        cases this
      · exact h0
    · have hc : ∀ j u, j < 5 → (l[k]'hk).cells.toList[j]? = some u → w.cell? ⟨g, k * 5 + j, none⟩ = some u := fun j u hj hu => by
        have := h1.cells (g := g) rfl (k * 5 + j) u (by rw [pcs_at l k j hk hj]; exact hu)
        rwa [add_plain, Nat.zero_add] at this
      exact ⟨hc 0 _ (by decide) rfl, hc 1 _ (by decide) rfl, hc 2 _ (by decide) rfl, hc 3 _ (by decide) rfl, hc 4 _ (by decide) rfl⟩
theorem RecAt.not_row {w : World} {b M : Nat} {R : Rc} (h : RecAt w b M R) {g : Nat} {cur : Array Value} (hg : w.heap[g]? = some (.cells cur 32 (0, 0))) : g ≠ b ∧ g ≠ M := by
  refine ⟨fun e => ?_, fun e => ?_⟩
  · subst e; rw [h.1] at hg; cases hg
  · subst e
    obtain ⟨D, h1, _⟩ := h.2
    have := h1.no_cells hg
    cases this
theorem PkRow.turn {B b M : Nat} {w w' : World} {v : Value} {l : List Pk} {R : Rc} (h : PkRow B w v l) (hR : RecAt w b M R) (ht : Tu b M w w') : PkRow B w' v l := by
  refine ⟨⟨h.1.1, ?_⟩, h.2⟩
  rcases h.1.2 with h1 | ⟨g, cap, cur, rfl, hb, hgg, rest⟩
  · exact .inl h1
  · obtain ⟨n1, n2⟩ := hR.not_row hgg
    exact .inr ⟨g, cap, cur, rfl, hb, (ht.block g (heap_lt hgg) n1 n2).trans hgg, rest⟩
theorem PkRow.below {B : Nat} {w w' : World} {v : Value} {l : List Pk} (h : PkRow B w v l) (hb : Below w.heap.size w w') : PkRow B w' v l :=
  ⟨h.1.kept (grown_below (r := none) hb) (by cases hv : v.ownBlock <;> simp), h.2⟩
theorem PkRow.base {B B' : Nat} {w : World} {v : Value} {l : List Pk} (h : PkRow B w v l) (hb : B' ≤ B) : PkRow B' w v l := ⟨ownsRow_base_a h.1 hb, h.2⟩
theorem RecAt.ne {w : World} {b M : Nat} {R : Rc} (h : RecAt w b M R) : b ≠ M := fun e => by
  obtain ⟨D, h1, _⟩ := h.2
  subst e
  have := h1.no_cells h.1
  cases this
theorem RecAt.below {w w' : World} {b M : Nat} {R : Rc} (h : RecAt w b M R) (hb : Below w.heap.size w w') : RecAt w' b M R := ⟨heap_below hb h.1, h.2.of_block (hb.block M h.2.lt)⟩
theorem RecAt.grown {w w' : World} {b M : Nat} {R : Rc} {r : Option Nat} (h : RecAt w b M R) (hg : w.grownBy w' r) (h1 : some b ≠ r) (h2 : some M ≠ r) : RecAt w' b M R :=
  ⟨(hg.block b (heap_lt h.1) h1).trans h.1, h.2.of_block (hg.block M h.2.lt h2)⟩
set_option maxRecDepth 100000 in
set_option maxHeartbeats 2000000 in
theorem all_any (p : Option Addr) (w : World) : Calls Tryz.prog 45 #[.pointer p] w fun e w' => e = .returned (.func (.func 67) #[] #[.pointer (some ⟨w.heap.size, 0, none⟩)]) ∧ w' = w.alloc (.cells #[.pointer p] 24) := by
  have hmf : ∀ (fn : Fn) (first cap : Array Value) (w : World), (Instr.makeFunc fn first cap).run Tryz.prog w = .ok (.func fn first cap) w := fun _ _ _ _ => rfl
  go_enter Tryz.func45, Tryz.ntmps45
  go_wp2
  go_ret
  exact ⟨rfl, rfl⟩
/-- the condition f, as the closure k over lb, wherever nothing that lay in w has turned -/
def Wants (w : World) (k : Nat) (lb : Array Value) (f : Pk → Bool) (l : List Pk) : Prop :=
  ∀ p ∈ l, ∀ W, Below w.heap.size w W → Calls Tryz.prog k (#[p.val] ++ lb) W fun e W' => e = .returned (.bool (f p)) ∧ Below W.heap.size W W'
theorem Wants.below {w w' : World} {k : Nat} {lb : Array Value} {f : Pk → Bool} {l : List Pk} (h : Wants w k lb f l) (hb : Below w.heap.size w w') : Wants w' k lb f l := fun p hp W hW => h p hp W (btrans hb hW)
def SelPost (w : World) (l : List Pk) (e : Ending) (w' : World) : Prop := ∃ v, e = .returned v ∧ PkRow w.heap.size w' v l ∧ Below w.heap.size w w'
theorem sel_any {w : World} {b M : Nat} {R : Rc} (hR : RecAt w b M R) (ok : R.Ok) {k : Nat} {lb : Array Value} {f : Pk → Bool} (hw : Wants w k lb f R.l) (ek : ∀ args w, (callFunc k args).run Tryz.prog w = .ok (.enter k args) w) :
    Calls Tryz.prog 44 #[.func (.func 67) #[] #[.pointer (some ⟨w.heap.size, 0, none⟩)], .func (.func k) #[] lb] (w.alloc (.cells #[.pointer (some ⟨b, 0, none⟩)] 24)) (SelPost w (R.l.filter f)) := by
  obtain ⟨x1, x2, x3⟩ := box1 w (.cells #[.pointer (some ⟨b, 0, none⟩)] 24)
  have hR1 := hR.below x2
  have hl : R.l.length ≤ 1000000 := by have := ok.len; have := ok.n1; omega
  refine (filter_any R.l R.nx ok.up hl w.heap.size k lb f (w.alloc (.cells #[.pointer (some ⟨b, 0, none⟩)] 24))
    (all_stops 7 (by decide) w.heap.size b M R.nx.toNat _ R.l R.nx ok.up (by have := ok.n1; omega) hl _ (Nat.le_refl _) (by omega) (heap_lt hR1.1) hR1.2.lt (at_whole x1 0 rfl) (at_whole hR1.1 0 rfl) hR1.2)
    ek (hw.below x2)).mono ?_
  rintro e w' ⟨v, rfl, h1, h2, h3⟩
  exact ⟨v, rfl, PkRow.base ⟨h1, h2⟩ (by omega), btrans x2 h3⟩
theorem sel_nil {w : World} {k : Nat} {lb : Array Value} (f : Pk → Bool) (ek : ∀ args w, (callFunc k args).run Tryz.prog w = .ok (.enter k args) w) :
    Calls Tryz.prog 44 #[.func (.func 67) #[] #[.pointer (some ⟨w.heap.size, 0, none⟩)], .func (.func k) #[] lb] (w.alloc (.cells #[.pointer none] 24)) (SelPost w []) := by
  obtain ⟨x1, x2, x3⟩ := box1 w (.cells #[.pointer none] 24)
  refine (filter_any [] 0 ⟨by simp, by simp, by simp⟩ (by decide) w.heap.size k lb f (w.alloc (.cells #[.pointer none] 24))
    (all_nil_stops 7 (by decide) w.heap.size _ _ (by omega) (Nat.le_refl _) (at_whole x1 0 rfl))
    ek (fun p hp => by cases hp)).mono ?_
  rintro e w' ⟨v, rfl, h1, h2, h3⟩
  exact ⟨v, rfl, PkRow.base ⟨h1, h2⟩ (by omega), btrans x2 h3⟩
end Go.Proofs.YtafkndhnbnpahaaGreat
/- Law 13: remove. -/
namespace Go.Proofs.YtafkndhnbnpahaaGreat
open Go.RowKit Go.Maps
/-- what is left when the first k of the chosen ones are struck -/
def Lk (l : List Pk) (f : Pk → Bool) (k : Nat) : List Pk := l.filter fun p => !((l.filter f).take k).any fun q => q.pn == p.pn
theorem Lk_zero (l : List Pk) (f : Pk → Bool) : Lk l f 0 = l := by unfold Lk; simp
theorem Lk_succ (l : List Pk) (f : Pk → Bool) (k : Nat) (hk : k < (l.filter f).length) : (Lk l f k).filter (fun p => p.pn != ((l.filter f)[k]'hk).pn) = Lk l f (k + 1) := by
  unfold Lk
  rw [List.filter_filter, List.take_succ_eq_append_getElem hk]
  congr 1
  funext p
  simp only [List.any_append, List.any_cons, List.any_nil, Bool.or_false, Bool.not_or]
  rw [Bool.and_comm]
  congr 1
  rw [show (p.pn != ((l.filter f)[k]'hk).pn) = !(((l.filter f)[k]'hk).pn == p.pn) from by rw [bne, Bool.beq_comm]]
theorem Lk_end (l : List Pk) (f : Pk → Bool) (nx : Int) (hu : Up nx l) : Lk l f (l.filter f).length = l.filter fun p => !f p := by
  unfold Lk
  rw [List.take_length]
  refine List.filter_congr fun p hp => ?_
  congr 1
  rw [Bool.eq_iff_iff, List.any_eq_true]
  constructor
  · rintro ⟨q, hq, e⟩
    obtain ⟨h1, h2⟩ := List.mem_filter.1 hq
    have e : q.pn = p.pn := by simpa using e
    have : q = p := by
      obtain ⟨i, hi, rfl⟩ := List.getElem_of_mem h1
      obtain ⟨j, hj, rfl⟩ := List.getElem_of_mem hp
      have h3 := List.pairwise_iff_getElem.1 hu.inc
      rcases Nat.lt_trichotomy i j with h | h | h
      · have := h3 i j hi hj h; omega
      · subst h; rfl
      · have := h3 j i hj hi h; omega
    rw [← this]; exact h2
  · intro h
    exact ⟨p, List.mem_filter.2 ⟨hp, h⟩, by simp⟩
theorem Lk_sub (l : List Pk) (f : Pk → Bool) (k : Nat) : ∀ p ∈ Lk l f k, p ∈ l := fun _p hp => (List.mem_filter.1 hp).1
def Rc.cut (R : Rc) (f : Pk → Bool) : Rc := { R with l := R.l.filter fun p => !f p }
theorem Rc.Ok.cut {R : Rc} (h : R.Ok) (f : Pk → Bool) : (R.cut f).Ok :=
  ⟨h.up.filter _, h.n0, h.n1, h.g0, h.g1, by have := h.len; have : (R.l.filter fun p => !f p).length ≤ R.l.length := List.length_filter_le _ _; show ((R.l.filter fun p => !f p).length : Int) ≤ R.nx; omega, fun p hp => h.tm p (List.mem_filter.1 hp).1⟩
def RemPost (b M : Nat) (R : Rc) (f : Pk → Bool) (w : World) (e : Ending) (w' : World) : Prop := ∃ v, e = .returned v ∧ PkRow w.heap.size w' v (R.l.filter f) ∧ RecAt w' b M (R.cut f) ∧ Tu b M w w'
set_option maxRecDepth 100000 in
set_option maxHeartbeats 4000000 in
theorem remove_any {w : World} {b M : Nat} {R : Rc} (hR : RecAt w b M R) (ok : R.Ok) {k : Nat} {lb : Array Value} {f : Pk → Bool} (hw : Wants w k lb f R.l) (ek : ∀ args w, (callFunc k args).run Tryz.prog w = .ok (.enter k args) w) :
    Calls Tryz.prog 38 #[.pointer (some ⟨b, 0, none⟩), .func (.func k) #[] lb] w (RemPost b M R f w) := by
  have SEL := Lib.hid (sel_any hR ok hw ek)
  have HR := Lib.hid hR
  have OK := Lib.hid ok
  have hlen : (R.l.filter f).length ≤ 10000 := by have := ok.len; have := ok.n1; have := List.length_filter_le f R.l; omega
  clear hR ok hw
  go_enter Tryz.func38, Tryz.ntmps38
  go_wp2_with (first | (go_at_call 45; refine (all_any _ _).mono ?_; rintro e w' ⟨rfl, rfl⟩) | (go_at_call 44; refine SEL.out.mono ?_; rintro e w1 ⟨v, rfl, hv, hb1⟩; rcases hv.form with ⟨rfl, hl0⟩ | ⟨g, cap, cur, rfl, hpos, hcap, hm, hg, hgg, hcell⟩))
  · have hL : R.cut f = R := by
      have := Lk_end R.l f R.nx OK.out.up
      rw [hl0, List.length_nil, Lk_zero] at this
      unfold Rc.cut
      rw [← this]
    have H := Lib.hid (And.intro hv hb1)
    clear hv hb1
    refine wp_loop_rounds 1 ?_
    rw [rounds_succ]
    go_wp2
    go_ret
    refine ⟨_, rfl, H.out.1, ?_, Tu.below H.out.2⟩
    rw [hL]
    exact HR.out.below H.out.2
  · have H := Lib.hid (And.intro hv (And.intro hb1 (And.intro hg (And.intro hgg hcell))))
    have HR1 := Lib.hid (HR.out.below hb1)
    clear hv hb1 hg hgg hcell
    unfold maxLen at hm
    go_loopw [14] (fun i wr => ∃ j : Nat, j ≤ (R.l.filter f).length ∧ i = .int .i64 j ∧ RecAt wr b M { R with l := Lk R.l f j } ∧ Tu b M w1 wr) (fun i _ => (R.l.filter f).length - (intOf i).toNat)
    case atStart => exact ⟨0, by omega, rfl, by rw [Lk_zero]; exact HR1.out, Tu.refl _ _ _⟩
    case round =>
      obtain ⟨j, hj, rfl, hRj, hT⟩ := hrel
      have HJ := Lib.hid (And.intro hRj hT)
      clear hRj hT
      by_cases hlt : j < (R.l.filter f).length
      · have hgn := Lib.hid (HJ.out.2.block g (heap_lt H.out.2.2.2.1) (HR1.out.not_row H.out.2.2.2.1).1 (HR1.out.not_row H.out.2.2.2.1).2)
        have HC := Lib.hid (H.out.2.2.2.2 j hlt)
        have q0 : wr.cell? ⟨g, j * 5, none⟩ = _ := (World.cell?_of_block (a := ⟨g, j * 5, none⟩) hgn.out).trans HC.out.1
        have q1 : wr.cell? ⟨g, j * 5 + 1, none⟩ = _ := (World.cell?_of_block (a := ⟨g, j * 5 + 1, none⟩) hgn.out).trans HC.out.2.1
        have q2 : wr.cell? ⟨g, j * 5 + 2, none⟩ = _ := (World.cell?_of_block (a := ⟨g, j * 5 + 2, none⟩) hgn.out).trans HC.out.2.2.1
        have q3 : wr.cell? ⟨g, j * 5 + 3, none⟩ = _ := (World.cell?_of_block (a := ⟨g, j * 5 + 3, none⟩) hgn.out).trans HC.out.2.2.2.1
        have q4 : wr.cell? ⟨g, j * 5 + 4, none⟩ = _ := (World.cell?_of_block (a := ⟨g, j * 5 + 4, none⟩) hgn.out).trans HC.out.2.2.2.2
        have hpm : (R.l.filter f)[j]'hlt ∈ R.l := (List.mem_filter.1 (List.getElem_mem hlt)).1
        have hfv := OK.out.up.fvs _ hpm
        have hLS := Lib.hid (Lk_succ R.l f j hlt)
        have hbd := Lib.hid (And.intro (OK.out.up.bnd _ hpm) OK.out.n1)
        generalize (R.l.filter f)[j]'hlt = p at *
        obtain ⟨pn, time, size, el, fv⟩ := p
        obtain ⟨fa, fl, fc, e⟩ := hfv
        obtain rfl : fv = .slice fa fl fc := e
        simp only at q0 q1 q2 q3 q4
        have X := Lib.hid (box1 wr (.cells #[.int .i64 pn, .int .i64 time, .int .i64 size, .bool el, .slice fa fl fc] 32))
        have cb := at_whole (HJ.out.1.below X.out.2.1).1 0 rfl
        have cp := at_whole X.out.1 0 rfl
        simp only [List.getElem_toArray, List.getElem_cons_zero] at cb cp
        clear hpm
        go_wp2
        have HJ1 := Lib.hid (HJ.out.1.below X.out.2.1)
        have HT1 := Lib.hid (HJ.out.2.trans (Tu.below X.out.2.1))
        generalize wr.alloc _ = V at X cb cp HJ1 HT1 ⊢
        go_still_tail 6, (by kernel_rfl)
        obtain ⟨D, hD, hH⟩ := HJ1.out.2
        have hkey : keyOf Tryz.prog 3 (.int .i64 pn) = some (.int .i64 pn) := Maps.keyOf_int_mk Tryz.underlying3 (pnWf hbd.out.1.1 (by have := hbd.out; omega))
        refine wpList_delete_own _ rfl _ _ 73 3 rfl 32 (Maps.int_keyed Tryz.underlying3) Tryz.underlying73 _ M _ D rfl (World.ownsMap.drew hD) _ _ rfl hkey ?_
        intro w3 hown3 hturn3
        have HJ3 := Lib.hid (show RecAt w3 b M { R with l := Lk R.l f (j + 1) } from by
          have h2 := (HJ1.out.1 : V.heap[b]? = _)
          refine ⟨(hturn3.grown.block b (heap_lt h2) (fun e => HJ1.out.ne (by cases e; rfl))).trans h2, _, hown3, ?_⟩
          rw [← hLS.out]
          exact hH.del pn)
        have HT3 := Lib.hid (HT1.out.drew.trans (Tu.map hturn3.grown))
        clear hD hH hown3 hturn3 hkey cb cp q0 q1 q2 q3 q4
        go_wp2
        go_roundw
        case rel => exact ⟨j + 1, by omega, by go_num, HJ3.out, HT3.out⟩
        case measure => simp [intOf]; omega
      · obtain rfl : j = (R.l.filter f).length := by omega
        clear hlt
        go_wp2
        go_ret
        refine ⟨_, rfl, H.out.1.turn HR1.out HJ.out.2, ?_, (Tu.below H.out.2.1).trans HJ.out.2⟩
        have := HJ.out.1
        rw [Lk_end R.l f R.nx OK.out.up] at this
        exact this
end Go.Proofs.YtafkndhnbnpahaaGreat
/- Law 13: Expire, Discard, LastSent, Deadline. -/
namespace Go.Proofs.YtafkndhnbnpahaaGreat
open Go.RowKit Go.Maps
theorem ek39 : ∀ args w, (callFunc 39 args).run Tryz.prog w = .ok (.enter 39 args) w := enters_of Tryz.func39 (by kernel_rfl) rfl
theorem ek41 : ∀ args w, (callFunc 41 args).run Tryz.prog w = .ok (.enter 41 args) w := enters_of Tryz.func41 (by kernel_rfl) rfl
theorem ek46 : ∀ args w, (callFunc 46 args).run Tryz.prog w = .ok (.enter 46 args) w := enters_of Tryz.func46 (by kernel_rfl) rfl
theorem ek50 : ∀ args w, (callFunc 50 args).run Tryz.prog w = .ok (.enter 50 args) w := enters_of Tryz.func50 (by kernel_rfl) rfl
theorem ek52 : ∀ args w, (callFunc 52 args).run Tryz.prog w = .ok (.enter 52 args) w := enters_of Tryz.func52 (by kernel_rfl) rfl
theorem ek57 : ∀ args w, (callFunc 57 args).run Tryz.prog w = .ok (.enter 57 args) w := enters_of Tryz.func57 (by kernel_rfl) rfl
theorem mkf (fn : Fn) (first cap : Array Value) (w : World) : (Instr.makeFunc fn first cap).run Tryz.prog w = .ok (.func fn first cap) w := rfl
theorem RemPost.lift {w w' w'' : World} {b M : Nat} {R : Rc} {f : Pk → Bool} {v : Value} (hb : Below w.heap.size w w') (h1 : PkRow w'.heap.size w'' v (R.l.filter f)) (h2 : RecAt w'' b M (R.cut f)) (h3 : Tu b M w' w'') :
    RemPost b M R f w (.returned v) w'' := ⟨v, rfl, h1.base hb.size, h2, (Tu.below hb).trans h3⟩
set_option maxRecDepth 100000 in
set_option maxHeartbeats 4000000 in
theorem expire_any {w : World} {b M : Nat} {R : Rc} (hR : RecAt w b M R) (ok : R.Ok) (now d : Int) (hn : 0 ≤ now) (hn' : now ≤ 9223372036854775807) (hd : 0 ≤ d) (hd' : d ≤ 9223372036854775807) :
    Calls Tryz.prog 14 #[.pointer (some ⟨b, 0, none⟩), .int .i64 now, .int .i64 d] w (RemPost b M R (exF R.lg now d) w) := by
  have X := Lib.hid (box3 w (.cells #[.pointer (some ⟨b, 0, none⟩)] 24) (.cells #[.int .i64 now] 3) (.cells #[.int .i64 d] 3))
  have REM := Lib.hid (remove_any (hR.below X.out.2.2.2.1) ok (k := 39) (lb := #[.pointer (some ⟨w.heap.size, 0, none⟩), .pointer (some ⟨w.heap.size + 1, 0, none⟩), .pointer (some ⟨w.heap.size + 1 + 1, 0, none⟩)]) (f := exF R.lg now d)
    (fun p hp W hW => want39 p _ _ _ b R.lg now d W (at_whole (heap_below hW X.out.1) 0 rfl) (at_whole (heap_below hW X.out.2.1) 0 rfl) (at_whole (heap_below hW X.out.2.2.1) 0 rfl) (at_whole (heap_below hW (hR.below X.out.2.2.2.1).1) 2 rfl)
      ⟨(ok.up.bnd p hp).1, by have := (ok.up.bnd p hp).2; have := ok.n1; omega⟩ hn hn' hd hd') ek39)
  have hmf := mkf
  clear hR ok
  go_enter Tryz.func14, Tryz.ntmps14
  go_wp2_with (go_at_call 38; refine REM.out.mono ?_; rintro e w1 ⟨v, rfl, h1, h2, h3⟩)
  go_ret
  exact RemPost.lift X.out.2.2.2.1 h1 h2 h3
set_option maxRecDepth 100000 in
set_option maxHeartbeats 2000000 in
theorem discard_any {w : World} {b M : Nat} {R : Rc} (hR : RecAt w b M R) (ok : R.Ok) :
    Calls Tryz.prog 27 #[.pointer (some ⟨b, 0, none⟩)] w (RemPost b M R (fun _ => true) w) := by
  have REM := Lib.hid (remove_any hR ok (k := 52) (lb := #[]) (f := fun _ => true) (fun p hp W hW => want52 p W) ek52)
  clear hR ok
  go_enter Tryz.func27, Tryz.ntmps27
  go_wp2_with (go_at_call 38; refine REM.out.mono ?_; rintro e w1 ⟨v, rfl, h1, h2, h3⟩)
  go_ret
  exact ⟨v, rfl, h1, h2, h3⟩
def lastT (l : List Pk) : Int := ((l.filter fun p => p.el).getLast?.map (·.time)).getD (-1)
set_option maxRecDepth 100000 in
set_option maxHeartbeats 2000000 in
theorem last_any {w : World} {b M : Nat} {R : Rc} (hR : RecAt w b M R) (ok : R.Ok) :
    Calls Tryz.prog 33 #[.pointer (some ⟨b, 0, none⟩)] w fun e w' => e = .returned (.int .i64 (lastT R.l)) ∧ Below w.heap.size w w' := by
  have SEL := Lib.hid (sel_any hR ok (k := 57) (lb := #[]) (f := fun p => p.el) (fun p hp W hW => want57 p W) ek57)
  have hlen : (R.l.filter fun p => p.el).length ≤ 10000 := by have := ok.len; have := ok.n1; have := List.length_filter_le (fun p : Pk => p.el) R.l; omega
  have E := Lib.hid (show lastT R.l = ((R.l.filter fun p => p.el).getLast?.map (·.time)).getD (-1) from rfl)
  clear hR ok
  generalize R.l.filter (fun p => p.el) = l at *
  go_enter Tryz.func33, Tryz.ntmps33
  go_wp2_with (go_at_call 45; refine (all_any _ _).mono ?_; rintro e w' ⟨rfl, rfl⟩)
  refine SEL.out.mono ?_
  rintro e w1 ⟨v, rfl, hv, hb1⟩
  rcases hv.form with ⟨rfl, hl0⟩ | ⟨g, cap, cur, rfl, hpos, hcap, hm, hg, hgg, hcell⟩
  · subst hl0
    go_wp2
    go_ret
    exact ⟨by rw [E.out]; rfl, hb1⟩
  · have hc := (hcell (l.length - 1) (by omega)).2.1
    have hx : ((l.length : Int) - 1).toNat = l.length - 1 := by omega
    have H := Lib.hid (And.intro hb1 hcell)
    have hne : ((l.length : Int) = 0) = False := eq_false (by omega)
    unfold maxLen at hm
    clear hv hb1 hcell hgg
    go_wp2
    go_ret
    refine ⟨?_, H.out.1⟩
    rw [E.out, List.getLast?_eq_getElem?, List.getElem?_eq_getElem (by omega)]
    rfl
def mnT (h : Int) (l : List Pk) : Int := l.foldl (fun m p => min m p.time) h
def deadT (l : List Pk) (d : Int) : Int := match l with
  | [] => -1
  | p :: t => mnT p.time (p :: t) + d
theorem mnT_snoc (h : Int) (l : List Pk) (p : Pk) : mnT h (l ++ [p]) = min (mnT h l) p.time := by unfold mnT; rw [List.foldl_append]; rfl
theorem mnT_bnd (h : Int) (l : List Pk) (hh : 0 ≤ h ∧ h ≤ 1125899906842624) (hl : ∀ p ∈ l, 0 ≤ p.time ∧ p.time ≤ 1125899906842624) : 0 ≤ mnT h l ∧ mnT h l ≤ 1125899906842624 := by
  induction l generalizing h with
  | nil => exact hh
  | cons p l ih =>
    refine ih _ ?_ (fun q hq => hl q (by simp [hq]))
    have := hl p (by simp)
    dsimp only
    omega
set_option maxRecDepth 100000 in
set_option maxHeartbeats 4000000 in
theorem deadline_any {w : World} {b M : Nat} {R : Rc} (hR : RecAt w b M R) (ok : R.Ok) (d : Int) (hd : 0 ≤ d) (hd' : d ≤ 1125899906842624) :
    Calls Tryz.prog 23 #[.pointer (some ⟨b, 0, none⟩), .int .i64 d] w fun e w' => e = .returned (.int .i64 (deadT (R.l.filter (dlF R.lg)) d)) ∧ Below w.heap.size w w' := by
  have X := Lib.hid (box1 w (.cells #[.pointer (some ⟨b, 0, none⟩)] 24))
  have SEL := Lib.hid (sel_any (hR.below X.out.2.1) ok (k := 50) (lb := #[.pointer (some ⟨w.heap.size, 0, none⟩)]) (f := dlF R.lg)
    (fun p hp W hW => want50 p _ b R.lg W (at_whole (heap_below hW X.out.1) 0 rfl) (at_whole (heap_below hW (hR.below X.out.2.1).1) 2 rfl)) ek50)
  have hlen : (R.l.filter (dlF R.lg)).length ≤ 10000 := by have := ok.len; have := ok.n1; have := List.length_filter_le (dlF R.lg) R.l; omega
  have htm := Lib.hid (fun p (hp : p ∈ R.l.filter (dlF R.lg)) => ok.tm p (List.mem_filter.1 hp).1)
  have hfv := Lib.hid (fun p (hp : p ∈ R.l.filter (dlF R.lg)) => ok.up.fvs p (List.mem_filter.1 hp).1)
  rw [World.size_alloc] at SEL
  have hmf := mkf
  clear hR ok
  generalize R.l.filter (dlF R.lg) = l at *
  have x0 := at_whole X.out.1 0 rfl
  simp only [List.getElem_toArray, List.getElem_cons_zero] at x0
  go_enter Tryz.func23, Tryz.ntmps23
  go_wp2_with (go_at_call 45; refine (all_any _ _).mono ?_; rintro e w' ⟨rfl, rfl⟩)
  refine SEL.out.mono ?_
  rintro e w1 ⟨v, rfl, hv, hb1⟩
  have hb2 : Below w.heap.size w w1 := btrans X.out.2.1 hb1
  rcases hv.form with ⟨rfl, hl0⟩ | ⟨g, cap, cur, rfl, hpos, hcap, hm, hg, hgg, hcell⟩
  · subst hl0
    clear hb1
    go_wp2
    go_ret
    exact ⟨rfl, hb2⟩
  · have HC := Lib.hid hcell
    have HB := Lib.hid hb2
    have hne : ((l.length : Int) = 0) = False := eq_false (by omega)
    have c1 := (hcell 0 hpos).2.1
    rw [Nat.zero_mul, Nat.zero_add] at c1
    have hd0 := Lib.hid (show deadT l d = mnT (l[0]'hpos).time l + d from by
      cases l with
      | nil => cases hpos
      | cons p t => rfl)
    have t0 := htm.out (l[0]'hpos) (List.getElem_mem hpos)
    generalize (l[0]'hpos).time = h0 at *
    have mb := Lib.hid (fun k => mnT_bnd h0 (l.take k) t0 (fun p hp => htm.out p (List.mem_of_mem_take hp)))
    have GG := Lib.hid hgg
    unfold maxLen at hm
    clear hv hb1 hb2 hcell hgg x0
    go_wp2
    go_loopw [6, 22] (fun m i wr => ∃ k : Nat, k ≤ l.length ∧ i = .int .i64 k ∧ m = .int .i64 (mnT h0 (l.take k)) ∧ Below w1.heap.size w1 wr) (fun _ i _ => l.length - (intOf i).toNat)
    case atStart => exact ⟨0, by omega, rfl, rfl, Below.refl _ _⟩
    case round =>
      obtain ⟨k, hk, rfl, rfl, hB⟩ := hrel
      have B := Lib.hid hB
      clear hB
      have mk := mb.out k
      by_cases hlt : k < l.length
      · have hgn : wr.heap[g]? = w1.heap[g]? := B.out.block g (heap_lt GG.out)
        have HK := Lib.hid (HC.out k hlt)
        have q0 : wr.cell? ⟨g, k * 5, none⟩ = _ := (World.cell?_of_block (a := ⟨g, k * 5, none⟩) hgn).trans HK.out.1
        have q1 : wr.cell? ⟨g, k * 5 + 1, none⟩ = _ := (World.cell?_of_block (a := ⟨g, k * 5 + 1, none⟩) hgn).trans HK.out.2.1
        have q2 : wr.cell? ⟨g, k * 5 + 2, none⟩ = _ := (World.cell?_of_block (a := ⟨g, k * 5 + 2, none⟩) hgn).trans HK.out.2.2.1
        have q3 : wr.cell? ⟨g, k * 5 + 3, none⟩ = _ := (World.cell?_of_block (a := ⟨g, k * 5 + 3, none⟩) hgn).trans HK.out.2.2.2.1
        have q4 : wr.cell? ⟨g, k * 5 + 4, none⟩ = _ := (World.cell?_of_block (a := ⟨g, k * 5 + 4, none⟩) hgn).trans HK.out.2.2.2.2
        have hpm : l[k]'hlt ∈ l := List.getElem_mem hlt
        obtain ⟨fa, fl, fc, e⟩ := hfv.out _ hpm
        rw [e] at q4
        have tk := htm.out _ hpm
        have hs := Lib.hid (show mnT h0 (l.take (k + 1)) = _ from by rw [List.take_succ_eq_append_getElem hlt, mnT_snoc])
        have BX := Lib.hid (B.out.trans (((Below.refl _ wr).alloc (Nat.le_refl _) (.cells #[.int .i64 (l[k]'hlt).pn, .int .i64 (l[k]'hlt).time, .int .i64 (l[k]'hlt).size, .bool (l[k]'hlt).el, .slice fa fl fc] 32)).mono B.out.size))
        generalize l[k]'hlt = p at *
        obtain ⟨pn, time, size, el, fv⟩ := p
        simp only at q0 q1 q2 q3 q4 hs tk BX
        clear e hgn
        go_wp2
        go_roundw
        case rel => exact ⟨k + 1, by omega, by go_num, by rw [hs.out], BX.out⟩
        case measure => simp [intOf]; omega
      · obtain rfl : k = l.length := by omega
        rw [List.take_length] at mk ⊢
        clear hlt
        have hw : IntKind.i64.wrap (mnT h0 l + d) = mnT h0 l + d := IntWalk.i64_in _ (by omega)
        go_wp2
        go_ret
        exact ⟨by rw [hd0.out]; rfl, HB.out.trans (B.out.mono HB.out.size)⟩
end Go.Proofs.YtafkndhnbnpahaaGreat
/- Law 13: New, Next, Acked; clone, Sent and Outstanding at packets without frames. -/
namespace Go.Proofs.YtafkndhnbnpahaaGreat
open Go.RowKit Go.Maps
set_option maxRecDepth 100000 in
set_option maxHeartbeats 2000000 in
theorem new_any (w : World) : Calls Tryz.prog 12 #[] w fun e w' => ∃ b M, e = .returned (.pointer (some ⟨b, 0, none⟩)) ∧ w.heap.size ≤ b ∧ w.heap.size ≤ M ∧ RecAt w' b M ⟨[], 0, -1⟩ ∧ Below w.heap.size w w' := by
  have hmm := @run_makeMap Tryz.prog
  have X := Lib.hid (box2 w (.map #[] 0) (.cells #[.map (some w.heap.size), .int .i64 0, .int .i64 (-1)] 75))
  have XM := Lib.hid (MapAt.made w 3)
  go_enter Tryz.func12, Tryz.ntmps12
  go_wp2
  go_ret
  refine ⟨_, w.heap.size, rfl, by omega, Nat.le_refl _, ⟨X.out.2.1, _, (XM.out.alloc _), holds_nil⟩, X.out.2.2.1⟩
set_option maxRecDepth 100000 in
set_option maxHeartbeats 2000000 in
theorem next_any {w : World} {b M : Nat} {R : Rc} (hR : RecAt w b M R) : Calls Tryz.prog 17 #[.pointer (some ⟨b, 0, none⟩)] w fun e w' => e = .returned (.int .i64 R.nx) ∧ w = w' := by
  have c := at_whole hR.1 1 rfl
  simp only [List.getElem_toArray, List.getElem_cons_zero, List.getElem_cons_succ] at c
  clear hR
  go_enter Tryz.func17, Tryz.ntmps17
  go_wp2
  go_ret
  exact ⟨rfl, rfl⟩
set_option maxRecDepth 100000 in
set_option maxHeartbeats 2000000 in
theorem acked_any {w : World} {b M : Nat} {R : Rc} (hR : RecAt w b M R) : Calls Tryz.prog 19 #[.pointer (some ⟨b, 0, none⟩)] w fun e w' => e = .returned (.int .i64 R.lg) ∧ w = w' := by
  have c := at_whole hR.1 2 rfl
  simp only [List.getElem_toArray, List.getElem_cons_zero, List.getElem_cons_succ] at c
  clear hR
  go_enter Tryz.func19, Tryz.ntmps19
  go_wp2
  go_ret
  exact ⟨rfl, rfl⟩
set_option maxRecDepth 100000 in
set_option maxHeartbeats 2000000 in
theorem clone70_nil (w : World) : Calls Tryz.prog 70 #[.slice none 0 0] w fun e w' => e = .returned (.slice none 0 0) ∧ w = w' := by
  have h1 := @Lib.run_eql_slice_nil Tryz.prog
  go_enter Tryz.func70, Tryz.ntmps70
  go_wp2
  go_ret
  exact ⟨rfl, rfl⟩
set_option maxRecDepth 100000 in
set_option maxHeartbeats 2000000 in
theorem clone_nil (p : Pk) (hf : p.fv = .slice none 0 0) (w : World) : Calls Tryz.prog 47 #[p.val] w fun e w' => e = .returned p.val ∧ Below w.heap.size w w' := by
  obtain ⟨pn, time, size, el, fv⟩ := p
  obtain rfl : fv = .slice none 0 0 := hf
  simp only [Pk.val, Pk.cells]
  go_enter Tryz.func47, Tryz.ntmps47
  go_wp2_with (go_at_call 70; refine (clone70_nil _).mono ?_; rintro e w1 ⟨rfl, rfl⟩)
  refine wp_loop_rounds 1 ?_
  rw [rounds_succ]
  go_wp2
  refine bodyPost_ret (v := .agg #[.int .i64 pn, .int .i64 time, .int .i64 size, .bool el, .slice none 0 0]) (by simp [results, Tryz.results47, go_sem]) rfl ⟨rfl, ?_⟩
  exact (((Below.refl _ w).alloc (Nat.le_refl _) _).alloc (by simp) _)
def Rc.add (R : Rc) (p : Pk) : Rc := { R with l := R.l ++ [p], nx := R.nx + 1 }
theorem Rc.Ok.add {R : Rc} (h : R.Ok) (p : Pk) (hp : p.pn = R.nx) (hn : R.nx < 10000) (ht : 0 ≤ p.time ∧ p.time ≤ 1125899906842624) (hf : ∃ a n c, p.fv = .slice a n c) : (R.add p).Ok :=
  ⟨h.up.app p hp h.n0 hf, by have := h.n0; show 0 ≤ R.nx + 1; omega, by show R.nx + 1 ≤ 10000; omega, h.g0, by have := h.g1; show R.lg < R.nx + 1; omega,
   by have := h.len; show ((R.l ++ [p]).length : Int) ≤ R.nx + 1; rw [List.length_append, List.length_singleton]; omega,
   fun q hq => by
    rcases List.mem_append.1 hq with hq | hq
    · exact h.tm q hq
    · rw [List.mem_singleton.1 hq]; exact ht⟩
set_option maxRecDepth 100000 in
set_option maxHeartbeats 4000000 in
theorem sent_nil {w : World} {b M : Nat} {R : Rc} (hR : RecAt w b M R) (ok : R.Ok) (p : Pk) (hf : p.fv = .slice none 0 0) (hp : p.pn = R.nx) (ht : 0 ≤ p.time) (hs : 0 ≤ p.size) :
    Calls Tryz.prog 20 #[.pointer (some ⟨b, 0, none⟩), p.val] w fun e w' => e = .returned (.int .i64 0) ∧ RecAt w' b M (R.add p) ∧ Tu b M w w' := by
  have C := Lib.hid (fun w => clone_nil p hf w)
  have hwf := Lib.hid (pnWf ok.n0 (by have := ok.n1; omega))
  have hup := Lib.hid ok.up
  have hn0 := ok.n0
  have hn1 := ok.n1
  have hn2 : IntKind.i64.wrap (R.nx + 1) = R.nx + 1 := IntWalk.i64_in _ (by omega)
  obtain ⟨pn, time, size, el, fv⟩ := p
  obtain rfl : fv = .slice none 0 0 := hf
  obtain rfl : pn = R.nx := hp
  simp only [Pk.val, Pk.cells] at C ht hs ⊢
  have hb := heap_lt hR.1
  have X := Lib.hid (box1 w (.cells #[.int .i64 R.nx, .int .i64 time, .int .i64 size, .bool el, .slice none 0 0] 32))
  have HR := Lib.hid (hR.below X.out.2.1)
  have x0 := at_whole X.out.1 0 rfl
  have x1 := at_whole X.out.1 1 rfl
  have x2 := at_whole X.out.1 2 rfl
  have x3 := at_whole X.out.1 3 rfl
  have x4 := at_whole X.out.1 4 rfl
  have b0 := at_whole HR.out.1 0 rfl
  have b1 := at_whole HR.out.1 1 rfl
  simp only [List.getElem_toArray, List.getElem_cons_zero, List.getElem_cons_succ] at x0 x1 x2 x3 x4 b0 b1
  have gd : decide (R.nx > 281474976710655) = false := by simp; omega
  have gd2 : (281474976710655 < R.nx) = False := eq_false (by omega)
  have gt : (time < 0) = False := eq_false (by omega)
  have gs : (size < 0) = False := eq_false (by omega)
  clear hR ok
  go_enter Tryz.func20, Tryz.ntmps20
  go_wp2
  generalize w.alloc _ = V at X HR x0 x1 x2 x3 x4 b0 b1 ⊢
  go_quiet (fail)
  go_wp2
  have Y := Lib.hid (show (V.drewN nq).heap[w.heap.size]? = some (.cells #[.int .i64 R.nx, .int .i64 time, .int .i64 size, .bool el, .slice none 0 0] 32 (0, 0)) ∧ Below w.heap.size w (V.drewN nq) ∧ RecAt (V.drewN nq) b M R from ⟨X.out.1, belowN X.out.2.1 _, HR.out.1, HR.out.2.of_block rfl⟩)
  clear x0 x1 x2 x3 x4 b0 b1 X HR
  generalize V.drewN nq = V2 at Y ⊢
  have x0 := at_whole Y.out.1 0 rfl
  have x1 := at_whole Y.out.1 1 rfl
  have x2 := at_whole Y.out.1 2 rfl
  have x3 := at_whole Y.out.1 3 rfl
  have x4 := at_whole Y.out.1 4 rfl
  have b0 := at_whole Y.out.2.2.1 0 rfl
  simp only [List.getElem_toArray, List.getElem_cons_zero, List.getElem_cons_succ] at x0 x1 x2 x3 x4 b0
  have HS := Lib.hid (show ∀ w', Keep V2 w' → (w'.cell? ⟨b, 0, none⟩ = some (.map (some M)) ∧ w'.cell? ⟨w.heap.size, 0, none⟩ = some (.int .i64 R.nx) ∧ w'.cell? ⟨w.heap.size, 1, none⟩ = some (.int .i64 time) ∧ w'.cell? ⟨w.heap.size, 2, none⟩ = some (.int .i64 size) ∧ w'.cell? ⟨w.heap.size, 3, none⟩ = some (.bool el) ∧ w'.cell? ⟨w.heap.size, 4, none⟩ = some (.slice none 0 0)) from
    fun w' h => ⟨at_whole (h _ _ _ Y.out.2.2.1) 0 rfl, at_whole (h _ _ _ Y.out.1) 0 rfl, at_whole (h _ _ _ Y.out.1) 1 rfl, at_whole (h _ _ _ Y.out.1) 2 rfl, at_whole (h _ _ _ Y.out.1) 3 rfl, at_whole (h _ _ _ Y.out.1) 4 rfl⟩)
  have UP := Lib.hid (show ∀ w1, Below V2.drew.heap.size V2.drew w1 → ∃ w3, (Instr.mapUpdate 73 (.map (some M)) (.int .i64 R.nx) (.agg #[.int .i64 R.nx, .int .i64 time, .int .i64 size, .bool el, .slice none 0 0])).run Tryz.prog w1 = .ok () w3 ∧ MapPk w3 M (R.nx.toNat + 1) (R.l ++ [⟨R.nx, time, size, el, .slice none 0 0⟩]) ∧ w1.grownBy w3 (some M) ∧ Keep V2 w3 from fun w1 h => by
    obtain ⟨D, hD, hH⟩ := (Y.out.2.2.below (below_drew h)).2
    obtain ⟨w3, h1, h2, h3⟩ := hD.put (t := 73) (e := 32) (Maps.int_keyed Tryz.underlying3) Tryz.underlying73 (by unfold maxLen; omega) (.agg #[.int .i64 R.nx, .int .i64 time, .int .i64 size, .bool el, .slice none 0 0]) (Maps.keyOf_int_mk Tryz.underlying3 hwf.out)
    exact ⟨w3, h1, ⟨_, h2, hH.put hup.out ⟨R.nx, time, size, el, .slice none 0 0⟩ rfl⟩, h3, fun x y z hh => keep_map hD h3 x y z (keep_below (below_drew h) x y z hh)⟩)
  go_region_held3 (fun w' => w'.cell? ⟨b, 0, none⟩ = some (.map (some M)) ∧ w'.cell? ⟨w.heap.size, 0, none⟩ = some (.int .i64 R.nx) ∧ w'.cell? ⟨w.heap.size, 1, none⟩ = some (.int .i64 time) ∧ w'.cell? ⟨w.heap.size, 2, none⟩ = some (.int .i64 size) ∧ w'.cell? ⟨w.heap.size, 3, none⟩ = some (.bool el) ∧ w'.cell? ⟨w.heap.size, 4, none⟩ = some (.slice none 0 0))
    (first | exact HS.out _ (keep_below (Below.refl V2.heap.size V2).drew) | exact HS.out _ (keep_below (below_drew hb1)) | exact HS.out _ hk3)
    (first | (go_at_call 47; refine (C.out _).mono ?_; rintro e w1 ⟨rfl, hb1⟩; obtain ⟨w3, hrun, hm3, hg3, hk3⟩ := UP.out _ hb1))
  have R3 := Lib.hid (show w3.heap[b]? = some (.cells #[.map (some M), .int .i64 R.nx, .int .i64 R.lg] 75 (0, 0)) from hk3 _ _ _ Y.out.2.2.1)
  have T3 := Lib.hid (show Tu b M w w3 from (Tu.below Y.out.2.1).trans ((Tu.below (below_drew hb1)).trans (Tu.map hg3)))
  have M3 := Lib.hid hm3
  have d1 := at_whole R3.out 1 rfl
  have f1 := frozen_whole R3.out 1
  simp only [List.getElem_toArray, List.getElem_cons_zero, List.getElem_cons_succ] at d1
  clear hrun hm3 hg3 hk3 hb1 x0 x1 x2 x3 x4 b0
  go_wp2
  go_ret
  refine ⟨rfl, ⟨?_, ?_⟩, T3.out.trans (Tu.set _ _ _)⟩
  · exact (heap_set (.int .i64 (R.nx + 1)) R3.out)
  · obtain ⟨D, hD, hH⟩ := M3.out
    have hne : M ≠ b := fun e => by
      subst e
      have := hD.no_cells R3.out
      cases this
    have e : (R.nx + 1).toNat = R.nx.toNat + 1 := by omega
    exact MapPk.of_block (w := w3) (by show MapPk w3 M (R.nx + 1).toNat _; rw [e]; exact M3.out) (heap_setCell_other _ _ _ _ (fun e => hne e))
end Go.Proofs.YtafkndhnbnpahaaGreat
/- Law 13: Outstanding at packets without frames. -/
namespace Go.Proofs.YtafkndhnbnpahaaGreat
open Go.RowKit Go.Maps
theorem setCell_self {w : World} {b i : Nat} {v : Value} (h : w.cell? ⟨b, i, none⟩ = some v) : w.setCell ⟨b, i, none⟩ v = w := by
  have hb : ∃ cs T fz, w.heap[b]? = some (.cells cs T fz) ∧ cs[i]? = some v := by
    unfold World.cell? at h
    split at h
    · rename_i c T fz e
      exact ⟨c, T, fz, e, by simpa using h⟩
    · cases h
  obtain ⟨cs, T, fz, hh, hc⟩ := hb
  have hs : cs.setIfInBounds i v = cs := by
    obtain ⟨hi, he⟩ := Array.getElem?_eq_some_iff.1 hc
    subst he
    exact Array.ext_getElem? (fun k => by
      by_cases e : i = k
      · subst e; simp [hi]
      · simp [e])
  have e : (w.setCell ⟨b, i, none⟩ v).heap = w.heap := by
    refine Array.ext_getElem? (fun k => ?_)
    by_cases e : k = b
    · subst e
      have : (w.setCell ⟨k, i, none⟩ v).heap[k]? = some (.cells (cs.setIfInBounds i v) T fz) := by simp [World.setCell, Array.getElem?_modify, hh]
      rw [this, hs, hh]
    · exact heap_setCell_other w _ k v (fun e2 => e e2)
  show World.setCell w _ v = w
  unfold World.setCell at e ⊢
  cases w
  simp only at e ⊢
  rw [e]
theorem filter_true (l : List Pk) : l.filter (fun _ => true) = l := List.filter_eq_self.2 (fun _ _ => rfl)
set_option maxRecDepth 100000 in
set_option maxHeartbeats 4000000 in
theorem out_nil {w : World} {b M : Nat} {R : Rc} (hR : RecAt w b M R) (ok : R.Ok) (hf : ∀ p ∈ R.l, p.fv = .slice none 0 0) :
    Calls Tryz.prog 18 #[.pointer (some ⟨b, 0, none⟩)] w (SelPost w R.l) := by
  have SEL := Lib.hid (sel_any hR ok (k := 46) (lb := #[]) (f := fun _ => true) (fun p hp W hW => want46 p W) ek46)
  rw [filter_true] at SEL
  have hlen : R.l.length ≤ 10000 := by have := ok.len; have := ok.n1; omega
  have HF := Lib.hid hf
  have CL := Lib.hid (fun p hp w => clone_nil p (hf p hp) w)
  clear hR ok hf
  generalize R.l = l at *
  go_enter Tryz.func18, Tryz.ntmps18
  go_wp2_with (go_at_call 45; refine (all_any _ _).mono ?_; rintro e w' ⟨rfl, rfl⟩)
  refine SEL.out.mono ?_
  rintro e w1 ⟨v, rfl, hv, hb1⟩
  rcases hv.form with ⟨rfl, hl0⟩ | ⟨g, cap, cur, rfl, hpos, hcap, hm, hg, hgg, hcell⟩
  · have H := Lib.hid (And.intro hv hb1)
    clear hv hb1
    go_wp2
    refine wp_loop_rounds 1 ?_
    rw [rounds_succ]
    go_wp2
    go_ret
    exact ⟨_, rfl, H.out.1, H.out.2⟩
  · have H := Lib.hid (And.intro hv (And.intro hb1 (And.intro hg (And.intro hgg hcell))))
    clear hv hb1 hg hgg hcell
    unfold maxLen at hm
    go_wp2
    go_loopw [11] (fun i wr => ∃ j : Nat, j ≤ l.length ∧ i = .int .i64 j ∧ Below w1.heap.size w1 wr) (fun i _ => l.length - (intOf i).toNat)
    case atStart => exact ⟨0, by omega, rfl, Below.refl _ _⟩
    case round =>
      obtain ⟨j, hj, rfl, hB⟩ := hrel
      have B := Lib.hid hB
      clear hB
      by_cases hlt : j < l.length
      · have hgn := Lib.hid (heap_below B.out H.out.2.2.2.1)
        have HC := Lib.hid (H.out.2.2.2.2 j hlt)
        have hk : ∀ k, wr.cell? ⟨g, k, none⟩ = w1.cell? ⟨g, k, none⟩ := fun k => World.cell?_of_block (a := ⟨g, k, none⟩) (hgn.out.trans H.out.2.2.2.1.symm)
        have q0 := (hk _).trans HC.out.1
        have q1 := (hk _).trans HC.out.2.1
        have q2 := (hk _).trans HC.out.2.2.1
        have q3 := (hk _).trans HC.out.2.2.2.1
        have q4 := (hk _).trans HC.out.2.2.2.2
        have C := Lib.hid (fun w => CL.out (l[j]'hlt) (List.getElem_mem hlt) w)
        have hfv := HF.out (l[j]'hlt) (List.getElem_mem hlt)
        clear hk HC
        generalize l[j]'hlt = p at *
        obtain ⟨pn, time, size, el, fv⟩ := p
        obtain rfl : fv = .slice none 0 0 := hfv
        simp only [Pk.val, Pk.cells] at q0 q1 q2 q3 q4 C
        have X := Lib.hid (box1 wr (.cells #[.int .i64 pn, .int .i64 time, .int .i64 size, .bool el, .slice none 0 0] 32))
        have Q := Lib.hid (And.intro q0 (And.intro q1 (And.intro q2 (And.intro q3 q4))))
        go_wp2_with fail
        refine (C.out _).mono ?_
        rintro e w2 ⟨rfl, hb2⟩
        have BB := Lib.hid (btrans X.out.2.1 hb2)
        have hg2 := heap_below BB.out hgn.out
        have hk : ∀ k, w2.cell? ⟨g, k, none⟩ = wr.cell? ⟨g, k, none⟩ := fun k => World.cell?_of_block (a := ⟨g, k, none⟩) (hg2.trans hgn.out.symm)
        have c0 := (hk _).trans Q.out.1
        have c1 := (hk _).trans Q.out.2.1
        have c2 := (hk _).trans Q.out.2.2.1
        have c3 := (hk _).trans Q.out.2.2.2.1
        have c4 := (hk _).trans Q.out.2.2.2.2
        have s0 := setCell_self c0
        have s1 := setCell_self c1
        have s2 := setCell_self c2
        have s3 := setCell_self c3
        have s4 := setCell_self c4
        have fz : ∀ k, w2.frozen? ⟨g, k, none⟩ = false := fun k => frozen_whole hg2 k
        have B2 := Lib.hid (B.out.trans (BB.out.mono B.out.size))
        clear hk q0 q1 q2 q3 q4 hb2 hg2
        go_wp2
        go_roundw
        case rel => exact ⟨j + 1, by omega, by go_num, B2.out⟩
        case measure => simp [intOf]; omega
      · obtain rfl : j = l.length := by omega
        clear hlt
        go_wp2
        go_ret
        exact ⟨_, rfl, H.out.1.below B.out, H.out.2.1.trans (B.out.mono H.out.2.1.size)⟩
end Go.Proofs.YtafkndhnbnpahaaGreat
/- Law 13: Ack. -/
namespace Go.Proofs.YtafkndhnbnpahaaGreat
open Go.RowKit Go.Maps
theorem wpList_load_row_g {P : Program} {ops : Array Oper} {rest : List Oper} {o : Oper} {a : Act} {w : World} {Q : Exit → Act → World → Prop} (hw : Region.wanted o (yielded ops a.tmps) = true) (ty : TypeId) (x : Operand) (ho : o.op = .load ty x)
    (g : Nat) (hx : a.eval x = .pointer (some ⟨g, 0, none⟩)) (t : TypeId) (cs : Array Value) (fr : Nat × Nat) (d : TypeDesc) (hg : w.heap[g]? = some (.cells cs t fr))
    (hu : P.underlying ty = some d) (hd : (match d with | .struct _ | .array _ _ => true | _ => false) = true) (hi : (P.info? ty).map (·.size) = some cs.size)
    (h : wpList P ops Q rest (a.put o.dst (.agg cs)) w) : wpList P ops Q (o :: rest) a w := by
  rw [wpList, if_pos hw]
  exact .inl (wp_load_row ty x ho g hx t cs fr d hg hu hd hi h)
/-- what is left behind the acknowledgment itself -/
def Rc.ack (R : Rc) (n : Nat) (F T : Nat → Int) : Rc := { R.cut (akF n F T) with lg := max R.lg (T 0 - 1) }
theorem Rc.Ok.ack {R : Rc} (h : R.Ok) (n : Nat) (F T : Nat → Int) (h1 : T 0 ≤ R.nx) : (R.ack n F T).Ok := by
  have c := h.cut (akF n F T)
  exact ⟨c.up, c.n0, c.n1, by have := h.g0; show -1 ≤ max R.lg (T 0 - 1); omega, by have := h.g1; show max R.lg (T 0 - 1) < R.nx; omega, c.len, c.tm⟩
def AckPost (b M : Nat) (R : Rc) (n : Nat) (F T : Nat → Int) (now d : Int) (w : World) (e : Ending) (w' : World) : Prop :=
  ∃ va vl, e = .returned (.tuple #[va, vl, .int .i64 0]) ∧ PkRow w.heap.size w' va (R.l.filter (akF n F T)) ∧ PkRow w.heap.size w' vl ((R.ack n F T).l.filter (exF (R.ack n F T).lg now d)) ∧
    RecAt w' b M ((R.ack n F T).cut (exF (R.ack n F T).lg now d)) ∧ Tu b M w w'
set_option maxRecDepth 100000 in
set_option maxHeartbeats 8000000 in
theorem ack_unsent {w : World} {b M : Nat} {R : Rc} (hR : RecAt w b M R) (_ok : R.Ok) (dl : Int) (rv : Value) (n : Nat) (F T : Nat → Int) (now d : Int) (h0 : 0 ≤ dl) (h1 : dl ≤ 4611686018427387903) (hG : RgOk n F T) (hS : SpansAt w rv n F T) (hn : 0 ≤ now) (hd : 0 ≤ d)
    (hT : R.nx < T 0) : Calls Tryz.prog 15 #[.pointer (some ⟨b, 0, none⟩), .int .i64 now, .agg (ackE dl rv), .int .i64 d] w fun e w' => e = .returned (.tuple #[.slice none 0 0, .slice none 0 0, .int .i64 130]) ∧ Below w.heap.size w w' := by
  have X := Lib.hid (box1 w (.cells (ackE dl rv) 41))
  have VA := Lib.hid (valid_ack dl rv n F T _ h0 h1 hG (hS.below X.out.2.1))
  obtain ⟨g, o, cap, hrv, hcap, hm, hsp⟩ := hS
  subst hrv
  have c0 := (hsp 0 hG.lo).2
  rw [Nat.zero_mul, Nat.add_zero] at c0
  have cl := World.block_lt_of_cell? _ _ c0
  have hn1 := hG.lo
  have hbl := heap_lt hR.1
  have HF := Lib.hid (fun W (h : Below w.heap.size w W) => And.intro ((h.cell (p := ⟨g, o + 1, none⟩) cl).trans c0) (at_whole (heap_below h hR.1) 1 rfl))
  have hgt : (R.nx < T 0) = True := eq_true hT
  have gn : (now < 0) = False := eq_false (by omega)
  have gd : (d < 0) = False := eq_false (by omega)
  unfold maxLen at hm
  clear hR hG hsp c0 cl
  unfold ackE at *
  have x0 := at_whole X.out.1 0 rfl
  simp only [List.getElem_toArray, List.getElem_cons_zero] at x0
  have i0 : (0 : Int) < (n : Int) := by omega
  go_enter Tryz.func15, Tryz.ntmps15
  go_wp2_with (first | (refine wpList_load_row_g rfl 41 _ rfl w.heap.size rfl 41 _ (0, 0) _ X.out.1 Tryz.underlying41 rfl size41 ?_))
  generalize w.alloc _ = V at X VA x0 ⊢
  refine VA.out.mono ?_
  rintro e V1 ⟨rfl, hb1⟩
  have XB := Lib.hid (btrans X.out.2.1 hb1)
  have XF := Lib.hid (heap_below hb1 X.out.1)
  have y9 := at_whole XF.out 9 rfl
  have yT := (HF.out V1 XB.out).1
  have yN := (HF.out V1 XB.out).2
  simp only [List.getElem_toArray, List.getElem_cons_zero, List.getElem_cons_succ] at y9 yN
  clear x0 hb1
  go_wp2
  go_quiet (fail)
  go_wp2
  go_ret3
  exact ⟨rfl, belowN XB.out _⟩
set_option maxRecDepth 100000 in
set_option maxHeartbeats 8000000 in
theorem ack_any {w : World} {b M : Nat} {R : Rc} (hR : RecAt w b M R) (ok : R.Ok) (dl : Int) (rv : Value) (n : Nat) (F T : Nat → Int) (now d : Int) (h0 : 0 ≤ dl) (h1 : dl ≤ 4611686018427387903) (hG : RgOk n F T) (hS : SpansAt w rv n F T) (hn : 0 ≤ now) (hd : 0 ≤ d)
    (hn' : now ≤ 9223372036854775807) (hd' : d ≤ 9223372036854775807)
    (hT : T 0 ≤ R.nx) (hgb : ∀ g o c, rv = .slice (some ⟨g, o, none⟩) n c → g ≠ b) : Calls Tryz.prog 15 #[.pointer (some ⟨b, 0, none⟩), .int .i64 now, .agg (ackE dl rv), .int .i64 d] w (AckPost b M R n F T now d w) := by
  have X := Lib.hid (box1 w (.cells (ackE dl rv) 41))
  have VA := Lib.hid (valid_ack dl rv n F T _ h0 h1 hG (hS.below X.out.2.1))
  have SP := Lib.hid hS
  obtain ⟨g, o, cap, hrv, hcap, hm, hsp⟩ := hS
  have hgb2 := hgb g o cap hrv
  clear hgb
  subst hrv
  have c0 := (hsp 0 hG.lo).2
  rw [Nat.zero_mul, Nat.add_zero] at c0
  have cl := World.block_lt_of_cell? _ _ c0
  have hn1 := hG.lo
  have hn2 := hG.hi
  have hT0 := (hG.at_ 0 hG.lo).1
  have hT1 := (hG.at_ 0 hG.lo).2.1
  have hbl := heap_lt hR.1
  have HF := Lib.hid (fun W (h : Below w.heap.size w W) => And.intro ((h.cell (p := ⟨g, o + 1, none⟩) cl).trans c0) (at_whole (heap_below h hR.1) 1 rfl))
  have HR := Lib.hid hR
  have OK := Lib.hid ok
  have HT := Lib.hid hT
  have hgt : (R.nx < T 0) = False := eq_false (by omega)
  have gn : (now < 0) = False := eq_false (by omega)
  have gd : (d < 0) = False := eq_false (by omega)
  have hnx := ok.n1
  unfold maxLen at hm
  clear hR ok hG hsp c0 cl hT
  unfold ackE at *
  have x0 := at_whole X.out.1 0 rfl
  simp only [List.getElem_toArray, List.getElem_cons_zero] at x0
  have i0 : (0 : Int) < (n : Int) := by omega
  have hmf := mkf
  go_enter Tryz.func15, Tryz.ntmps15
  go_wp2_with (first | (refine wpList_load_row_g rfl 41 _ rfl w.heap.size rfl 41 _ (0, 0) _ X.out.1 Tryz.underlying41 rfl size41 ?_))
  generalize w.alloc _ = V at X VA x0 ⊢
  refine VA.out.mono ?_
  rintro e V1 ⟨rfl, hb1⟩
  have XB := Lib.hid (btrans X.out.2.1 hb1)
  have XF := Lib.hid (heap_below hb1 X.out.1)
  have y9 := at_whole XF.out 9 rfl
  have yT := (HF.out V1 XB.out).1
  have yN := (HF.out V1 XB.out).2
  simp only [List.getElem_toArray, List.getElem_cons_zero, List.getElem_cons_succ] at y9 yN
  clear x0 hb1
  go_wp2
  go_quiet (fail)
  go_wp2_with fail
  have Y := Lib.hid (show (V1.drewN nq).heap[w.heap.size]? = _ ∧ Below w.heap.size w (V1.drewN nq) from ⟨XF.out, belowN XB.out _⟩)
  clear y9 yT yN XB XF X VA
  generalize V1.drewN nq = V2 at Y ⊢
  refine (remove_any (HR.out.below Y.out.2) OK.out (k := 41) (lb := #[.pointer (some ⟨w.heap.size, 0, none⟩)]) (f := akF n F T)
    (fun p hp W hW => want41 p w.heap.size n F T _ _ W (by omega) (SP.out.below (btrans Y.out.2 hW)) (heap_below hW Y.out.1) rfl) ek41).mono ?_
  rintro e V3 ⟨va, rfl, hva, hR3, hT3⟩
  have hne : w.heap.size ≠ b := by omega
  have hRY := HR.out.below Y.out.2
  have hneM : w.heap.size ≠ M := fun e => by
    obtain ⟨D, hD, _⟩ := hRY.2
    subst e
    have := hD.no_cells Y.out.1
    cases this
  have F3 := Lib.hid ((hT3.block _ (heap_lt Y.out.1) hne hneM).trans Y.out.1)
  have gT : V2.cell? ⟨g, o + 1, none⟩ = some (.int .i64 (T 0)) := (HF.out V2 Y.out.2).1
  have gl := World.block_lt_of_cell? _ _ gT
  have hgM : g ≠ M := fun e => by
    obtain ⟨D, hD, _⟩ := hRY.2
    subst e
    obtain ⟨es, clock, hh, _⟩ := hD
    simp [World.cell?, hh] at gT
  have z9 := at_whole F3.out 9 rfl
  have zT : V3.cell? ⟨g, o + 1, none⟩ = some (.int .i64 (T 0)) := (World.cell?_of_block (a := ⟨g, o + 1, none⟩) (hT3.block g gl hgb2 hgM)).trans gT
  have zb := at_whole hR3.1 2 rfl
  have zf := frozen_whole hR3.1 2
  simp only [List.getElem_toArray, List.getElem_cons_zero, List.getElem_cons_succ, Rc.cut] at z9 zb
  have wT : IntKind.i64.wrap (T 0 - 1) = T 0 - 1 := IntWalk.i64_in _ (by have := HT.out; omega)
  have H3 := Lib.hid (And.intro (hva.base Y.out.2.size) (And.intro hR3 ((Tu.below Y.out.2).trans hT3)))
  have lo := OK.out.g0
  have hi := OK.out.g1
  clear hva hR3 hT3 gT hRY
  have n0 : (0 < n) = True := eq_true (by omega)
  go_wp2
  go_still_tail 14, (by kernel_rfl)
  go_wp2_with fail
  have R4 := Lib.hid (show RecAt ((V3.setCell ⟨b, 2, none⟩ (.int .i64 (max R.lg (T 0 - 1)))).drew) b M (R.ack n F T) from
    ⟨heap_set (w := V3) _ H3.out.2.1.1, MapPk.of_block (w := V3) H3.out.2.1.2 (heap_setCell_other V3 _ _ _ (fun e => H3.out.2.1.ne (by exact e.symm)))⟩)
  have T4 := Lib.hid (show Tu b M w ((V3.setCell ⟨b, 2, none⟩ (.int .i64 (max R.lg (T 0 - 1)))).drew) from (H3.out.2.2.trans (Tu.set _ _ _)).drew)
  have A4 := Lib.hid (H3.out.1.turn (w' := (V3.setCell ⟨b, 2, none⟩ (.int .i64 (max R.lg (T 0 - 1)))).drew) H3.out.2.1 (Tu.set V3 _ _).drew)
  clear z9 zT zb zf H3 F3 gl wT
  go_wp2_with fail
  generalize (V3.setCell _ _).drew = V4 at R4 T4 A4 ⊢
  refine (expire_any R4.out (OK.out.ack n F T HT.out) now d hn hn' hd hd').mono ?_
  rintro e V5 ⟨vl, rfl, h1, h2, h3⟩
  have H5 := Lib.hid (And.intro (A4.out.turn R4.out h3) (And.intro (h1.base T4.out.size) (And.intro h2 (T4.out.trans h3))))
  clear h1 h2 h3
  go_wp2
  go_ret3
  exact ⟨va, vl, rfl, H5.out.1, H5.out.2.1, H5.out.2.2.1, H5.out.2.2.2⟩
end Go.Proofs.YtafkndhnbnpahaaGreat
