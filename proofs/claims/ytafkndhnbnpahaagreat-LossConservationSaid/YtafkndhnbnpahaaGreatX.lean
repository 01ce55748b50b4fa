/- Law 13: which packets an ACK frame names. -/
import Derived.Test.YtafkndhnbnpahaaGreatW
namespace Go.Proofs.YtafkndhnbnpahaaGreat
open Go.RowKit
def spF (f t pn : Int) : Bool := decide (f ≤ pn) && decide (pn < t)
set_option maxRecDepth 100000 in
set_option maxHeartbeats 2000000 in
theorem in43 (f t pn : Int) (Bp : Nat) (w : World) (hp : w.cell? ⟨Bp, 0, none⟩ = some (.int .i64 pn)) :
    Calls Tryz.prog 43 #[.agg #[.int .i64 f, .int .i64 t], .pointer (some ⟨Bp, 0, none⟩)] w fun e w' => e = .returned (.bool (spF f t pn)) ∧ Below w.heap.size w w' := by
  have hl := World.block_lt_of_cell? _ _ hp
  have E := Lib.hid (show spF f t pn = (decide (f ≤ pn) && decide (pn < t)) from rfl)
  cases a1 : decide (f ≤ pn) with
  | false =>
    rw [a1] at E
    go_enter Tryz.func43, Tryz.ntmps43
    go_wp2
    go_ret
    exact ⟨by rw [E.out]; rfl, (Below.refl _ _).alloc (Nat.le_refl _) _⟩
  | true =>
    rw [a1] at E
    go_enter Tryz.func43, Tryz.ntmps43
    go_wp2
    go_ret
    exact ⟨by rw [E.out]; rfl, (Below.refl _ _).alloc (Nat.le_refl _) _⟩
/-- do the ranges from number k on name pn? -/
def inFrom (F T : Nat → Int) (pn : Int) : Nat → Nat → Bool
  | 0, _ => false
  | m + 1, k => spF (F k) (T k) pn || inFrom F T pn m (k + 1)
def inF (n : Nat) (F T : Nat → Int) (pn : Int) : Bool := (List.range n).any fun k => spF (F k) (T k) pn
def IdxPost (n : Nat) (F T : Nat → Int) (pn : Int) (w : World) (e : Ending) (w' : World) : Prop := ∃ r : Int, e = .returned (.int .i64 r) ∧ decide (0 ≤ r) = inF n F T pn ∧ Below w.heap.size w w'
set_option maxRecDepth 100000 in
set_option maxHeartbeats 4000000 in
theorem idx66 (n : Nat) (F T : Nat → Int) (pn : Int) (v : Value) (Bp : Nat) (w : World) (hn : n ≤ 1000) (hS : SpansAt w v n F T) (hp : w.cell? ⟨Bp, 0, none⟩ = some (.int .i64 pn)) :
    Calls Tryz.prog 66 #[v, .func (.func 43) #[] #[.pointer (some ⟨Bp, 0, none⟩)]] w (IdxPost n F T pn w) := by
  have hl := World.block_lt_of_cell? _ _ hp
  obtain ⟨g, o, cap, rfl, hcap, hm, hsp⟩ := hS
  have SP := Lib.hid hsp
  have HP := Lib.hid hp
  unfold maxLen at hm
  clear hsp hp
  go_enter Tryz.func66, Tryz.ntmps66
  go_wp2
  go_loopw [8] (fun i wr => ∃ k : Nat, k ≤ n ∧ i = .int .i64 k ∧ Hid (∀ j, j < k → spF (F j) (T j) pn = false) ∧ Below w.heap.size w wr) (fun i _ => n - (intOf i).toNat)
  case atStart => exact ⟨0, by omega, rfl, Lib.hid (fun j hj => by omega), Below.refl _ _⟩
  case round =>
    obtain ⟨k, hk, rfl, hno, hB⟩ := hrel
    have B := Lib.hid hB
    clear hB
    by_cases hlt : k < n
    · have s0 : wr.cell? ⟨g, o + k * 2, none⟩ = some (.int .i64 (F k)) := (B.out.cell (World.block_lt_of_cell? _ _ (SP.out k hlt).1)).trans (SP.out k hlt).1
      have s1 : wr.cell? ⟨g, o + k * 2 + 1, none⟩ = some (.int .i64 (T k)) := (B.out.cell (World.block_lt_of_cell? _ _ (SP.out k hlt).2)).trans (SP.out k hlt).2
      have C := Lib.hid (in43 (F k) (T k) pn Bp wr ((B.out.cell (p := ⟨Bp, 0, none⟩) hl).trans HP.out))
      cases hc : spF (F k) (T k) pn with
      | true =>
        rw [hc] at C
        have HC := Lib.hid hc
        clear hc
        go_wp2_with (go_at_call 43; refine C.out.mono ?_; rintro e w1 ⟨rfl, hb1⟩)
        go_ret
        refine ⟨k, rfl, ?_, B.out.trans (hb1.mono B.out.size)⟩
        have : inF n F T pn = true := List.any_eq_true.2 ⟨k, List.mem_range.2 hlt, HC.out⟩
        rw [this]; simp
      | false =>
        rw [hc] at C
        have HC := Lib.hid hc
        clear hc
        go_wp2_with (go_at_call 43; refine C.out.mono ?_; rintro e w1 ⟨rfl, hb1⟩)
        have B1 := Lib.hid (B.out.trans (hb1.mono B.out.size))
        clear hb1
        go_roundw
        case rel => exact ⟨k + 1, by omega, by go_num, Lib.hid (fun j hj => by rcases Nat.lt_succ_iff_lt_or_eq.1 hj with h | h; exact hno.out j h; rw [h]; exact HC.out), B1.out⟩
        case measure => simp [intOf]; omega
    · obtain rfl : k = n := by omega
      clear hlt
      go_wp2
      go_ret
      refine ⟨-1, rfl, ?_, B.out⟩
      have : inF k F T pn = false := by
        unfold inF
        rw [List.any_eq_false]
        intro j hj
        rw [hno.out j (List.mem_range.1 hj)]
        simp
      rw [this]; rfl
set_option maxRecDepth 100000 in
set_option maxHeartbeats 2000000 in
theorem contains42 (n : Nat) (F T : Nat → Int) (pn : Int) (v : Value) (Bp : Nat) (w : World) (hn : n ≤ 1000) (hS : SpansAt w v n F T) (hp : w.cell? ⟨Bp, 0, none⟩ = some (.int .i64 pn)) :
    Calls Tryz.prog 42 #[v, .func (.func 43) #[] #[.pointer (some ⟨Bp, 0, none⟩)]] w fun e w' => e = .returned (.bool (inF n F T pn)) ∧ Below w.heap.size w w' := by
  have C := Lib.hid (idx66 n F T pn v Bp w hn hS hp)
  obtain ⟨g, o, cap, rfl, _⟩ := hS
  clear hp
  cases hi : inF n F T pn with
  | true =>
    have H := Lib.hid hi
    clear hi
    go_enter Tryz.func42, Tryz.ntmps42
    go_wp2_with (go_at_call 66; refine C.out.mono ?_; rintro e w1 ⟨r, rfl, hr, hb⟩; rw [H.out] at hr)
    go_ret
    exact ⟨rfl, hb⟩
  | false =>
    have H := Lib.hid hi
    clear hi
    go_enter Tryz.func42, Tryz.ntmps42
    go_wp2_with (go_at_call 66; refine C.out.mono ?_; rintro e w1 ⟨r, rfl, hr, hb⟩; rw [H.out] at hr)
    go_ret
    exact ⟨rfl, hb⟩
def akF (n : Nat) (F T : Nat → Int) (p : Pk) : Bool := inF n F T p.pn
set_option maxRecDepth 100000 in
set_option maxHeartbeats 2000000 in
theorem want41 (p : Pk) (Bf n : Nat) (F T : Nat → Int) (cs : Array Value) (v : Value) (w : World) (hn : n ≤ 1000) (hS : SpansAt w v n F T) (hb : w.heap[Bf]? = some (.cells cs 41 (0, 0))) (hc : cs[9]? = some v) :
    Calls Tryz.prog 41 #[p.val, .pointer (some ⟨Bf, 0, none⟩)] w fun e w' => e = .returned (.bool (akF n F T p)) ∧ Below w.heap.size w w' := by
  simp only [Pk.val, Pk.cells, akF]
  have hl := heap_lt hb
  have H := Lib.hid (box1 w (.cells #[.int .i64 p.pn, .int .i64 p.time, .int .i64 p.size, .bool p.el, p.fv] 32))
  have C := Lib.hid (contains42 n F T p.pn v w.heap.size _ hn (hS.below H.out.2.1) (at_whole H.out.1 0 rfl))
  obtain ⟨g, o, cap, rfl, _⟩ := hS
  have c9 : (w.alloc (.cells #[.int .i64 p.pn, .int .i64 p.time, .int .i64 p.size, .bool p.el, p.fv] 32)).cell? ⟨Bf, 9, none⟩ = some (.slice (some ⟨g, o, none⟩) n cap) := (H.out.2.1.cell (p := ⟨Bf, 9, none⟩) hl).trans ((cell_whole hb 9).trans hc)
  have hmf : ∀ (fn : Fn) (first cap : Array Value) (w : World), (Instr.makeFunc fn first cap).run Tryz.prog w = .ok (.func fn first cap) w := fun _ _ _ _ => rfl
  clear hb hc
  go_enter Tryz.func41, Tryz.ntmps41
  go_wp2_with (go_at_call 42; refine C.out.mono ?_; rintro e w1 ⟨rfl, hb1⟩)
  go_ret
  exact ⟨rfl, btrans H.out.2.1 hb1⟩
end Go.Proofs.YtafkndhnbnpahaaGreat
