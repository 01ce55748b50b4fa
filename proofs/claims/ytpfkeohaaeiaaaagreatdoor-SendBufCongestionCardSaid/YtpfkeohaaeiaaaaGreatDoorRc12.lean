/- Texts Rpb Rpc of this claim, one behind the other. -/
import Derived.Test.YtpfkeohaaeiaaaaGreatDoorRc10
import Derived.StillTailTactics
import Derived.BigQuiet
import Derived.Lib.Hide
import Derived.Test.YtpfkeohaaeiaaaaGreatDoorRc11
import Derived.Deep.QuietTactic
import Derived.Deep.OwnRows
/- Reassembly: a buffer as plain data, where it lies; New, end, ready. -/
namespace Go.Proofs.YtpfkeohaaeiaaaaGreatDoor.rea
open Go.RowKit
set_option maxRecDepth 100000
structure Rb where
  at_ : Nat
  bs : List Int
  hs : List Bool
  hi : Int
  fin : Int
  kn : Bool
def Rb.cells (R : Rb) (g1 g2 : Nat) : Array Value := #[.int .i64 R.at_, .slice (some ⟨g1, 0, none⟩) R.bs.length R.bs.length, .slice (some ⟨g2, 0, none⟩) R.bs.length R.bs.length, .int .i64 R.hi, .int .i64 R.fin, .bool R.kn]
def u8s (l : List Int) : Obj := .cells (l.map (Value.int .u8)).toArray 5
def bls (l : List Bool) : Obj := .cells (l.map Value.bool).toArray 4
/-- a buffer lies at block b, its rows at g1 and g2 -/
structure RbAt (w : World) (b g1 g2 : Nat) (R : Rb) : Prop where
  ob : w.heap[b]? = some (.cells (R.cells g1 g2) 101 (0, 0))
  o1 : w.heap[g1]? = some (u8s R.bs)
  o2 : w.heap[g2]? = some (bls R.hs)
  hl : R.hs.length = R.bs.length
  sm : R.bs.length ≤ 8192
/-- what a call leaves: only blocks b, g1, g2 have turned -/
structure Tr (b g1 g2 : Nat) (w w' : World) : Prop where
  os : w'.os = w.os
  tape : w'.tape = w.tape
  output : w'.output = w.output
  size : w.heap.size ≤ w'.heap.size
  block : ∀ k, k < w.heap.size → k ≠ b → k ≠ g1 → k ≠ g2 → w'.heap[k]? = w.heap[k]?
theorem Tr.refl (b g1 g2 : Nat) (w : World) : Tr b g1 g2 w w := ⟨rfl, rfl, rfl, Nat.le_refl _, fun _ _ _ _ _ => rfl⟩
theorem Tr.trans {b g1 g2 : Nat} {x y z : World} (h : Tr b g1 g2 x y) (k : Tr b g1 g2 y z) : Tr b g1 g2 x z :=
  ⟨k.os.trans h.os, k.tape.trans h.tape, k.output.trans h.output, Nat.le_trans h.size k.size, fun j hj h1 h2 h3 => (k.block j (Nat.lt_of_lt_of_le hj h.size) h1 h2 h3).trans (h.block j hj h1 h2 h3)⟩
theorem Tr.below {b g1 g2 : Nat} {x y z : World} (h : Tr b g1 g2 x y) (k : Below y.heap.size y z) : Tr b g1 g2 x z := h.trans ⟨k.os, k.tape, k.output, k.size, fun j hj _ _ _ => k.block j hj⟩
theorem Tr.set {b g1 g2 : Nat} {x y : World} (h : Tr b g1 g2 x y) {k i : Nat} (hk : k = b ∨ k = g1 ∨ k = g2) (v : Value) : Tr b g1 g2 x (y.setCell ⟨k, i, none⟩ v) :=
  ⟨h.os, h.tape, h.output, by simpa using h.size, fun j hj h1 h2 h3 => (heap_setCell_other y _ j v (fun e => by have e : k = j := (by first | exact e | exact e.symm); omega)).trans (h.block j hj h1 h2 h3)⟩
section
variable {w w' : World} {b g1 g2 : Nat} {R : Rb}
theorem RbAt.below (h : RbAt w b g1 g2 R) (hb : Below w.heap.size w w') : RbAt w' b g1 g2 R := ⟨heap_below hb h.ob, heap_below hb h.o1, heap_below hb h.o2, h.hl, h.sm⟩
theorem RbAt.ne (h : RbAt w b g1 g2 R) : b ≠ g1 ∧ b ≠ g2 ∧ g1 ≠ g2 := by
  have h1 := h.ob; have h2 := h.o1; have h3 := h.o2
  refine ⟨fun e => ?_, fun e => ?_, fun e => ?_⟩ <;> subst e
  · rw [h1] at h2; simp [u8s] at h2
  · rw [h1] at h3; simp [bls] at h3
  · rw [h2] at h3; simp [u8s, bls] at h3
/-- the cells of its struct -/
theorem RbAt.cells (h : RbAt w b g1 g2 R) : w.cell? ⟨b, 0, none⟩ = some (.int .i64 R.at_) ∧ w.cell? ⟨b, 1, none⟩ = some (.slice (some ⟨g1, 0, none⟩) R.bs.length R.bs.length) ∧ w.cell? ⟨b, 2, none⟩ = some (.slice (some ⟨g2, 0, none⟩) R.bs.length R.bs.length) ∧
    w.cell? ⟨b, 3, none⟩ = some (.int .i64 R.hi) ∧ w.cell? ⟨b, 4, none⟩ = some (.int .i64 R.fin) ∧ w.cell? ⟨b, 5, none⟩ = some (.bool R.kn) :=
  ⟨at_whole h.ob 0 rfl, at_whole h.ob 1 rfl, at_whole h.ob 2 rfl, at_whole h.ob 3 rfl, at_whole h.ob 4 rfl, at_whole h.ob 5 rfl⟩
theorem RbAt.byte (h : RbAt w b g1 g2 R) (k : Nat) (hk : k < R.bs.length) : w.cell? ⟨g1, k, none⟩ = some (.int .u8 (gd R.bs k)) := by
  refine at_whole h.o1 k ?_
  simp [gd, hk]
theorem RbAt.flag (h : RbAt w b g1 g2 R) (k : Nat) (hk : k < R.bs.length) : w.cell? ⟨g2, k, none⟩ = some (.bool (hg R.hs k)) := by
  have := h.hl
  refine at_whole h.o2 k ?_
  simp [hg, show k < R.hs.length by omega]
end
set_option maxRecDepth 100000 in
theorem end_any (off : Nat) (s : ByteArray) (fin : Bool) (w : World) (h : (off : Int) + s.size ≤ 9223372036854775807) : Calls Tryz.prog 114 #[.agg #[.int .i64 off, .string s, .bool fin]] w fun e w' => e = .returned (.int .i64 ((off : Int) + s.size)) ∧ w' = w.alloc (.cells #[.int .i64 off, .string s, .bool fin] 148) := by
  have hw : IntKind.i64.wrap ((off : Int) + s.size) = (off : Int) + s.size := IntWalk.i64_in _ (by omega)
  go_enter Tryz.func114, Tryz.ntmps114
  go_wp2
  go_ret
  exact ⟨rfl, rfl⟩
set_option maxRecDepth 100000 in
set_option maxHeartbeats 2000000 in
theorem ready_any (b g1 g2 : Nat) (R : Rb) (w : World) (h : RbAt w b g1 g2 R) : Calls Tryz.prog 83 #[.pointer (some ⟨b, 0, none⟩)] w fun e w' => e = .returned (.int .i64 (readyF R.hs)) ∧ w = w' := by
  have h2 := h.cells.2.2.1
  have HH := Lib.hid h
  have hl := h.hl
  have hsm := h.sm
  have hle := readyF_le R.hs
  have HL := Lib.hid (readyF_lt R.hs)
  have HA := Lib.hid (readyF_at R.hs)
  have HF := Lib.hid (fun k hk => h.flag k hk)
  clear h
  generalize readyF R.hs = m at *
  generalize R.bs.length = n at *
  go_enter Tryz.func83, Tryz.ntmps83
  go_wp2
  go_loop [10] (fun i => ∃ j : Nat, j ≤ m ∧ i = .int .i64 j) (fun i => m + 1 - (intOf i).toNat)
  case atStart => exact ⟨0, Nat.zero_le _, rfl⟩
  case round =>
    obtain ⟨j, hj, rfl⟩ := hrel
    by_cases hlt : j < n
    · have c0 := HF.out j hlt
      have d0 : (j : Int) < (n : Int) := by omega
      have d1 : (0 : Int) ≤ (j : Int) := by omega
      by_cases hjm : j < m
      · rw [HL.out j hjm] at c0
        go_wp2
        go_round
        case rel => exact ⟨j + 1, by omega, by go_num⟩
        case measure => simp [intOf]; omega
      · obtain rfl : j = m := by omega
        rw [HA.out (by omega)] at c0
        go_wp2
        go_ret
        exact ⟨rfl, rfl⟩
    · have d0 : ((j : Int) < (n : Int)) = False := eq_false (by omega)
      obtain rfl : j = m := by omega
      have e : n = j := by omega
      subst e
      go_wp2
      go_ret
      exact ⟨rfl, rfl⟩
end Go.Proofs.YtpfkeohaaeiaaaaGreatDoor.rea
/- Reassembly: New. -/
namespace Go.Proofs.YtpfkeohaaeiaaaaGreatDoor.rea
open Go.RowKit
set_option maxRecDepth 100000
def newRb (n : Nat) : Rb := ⟨0, List.replicate n 0, List.replicate n false, 0, 0, false⟩
theorem info5 : (Tryz.prog.info? 5).map (fun i => (i.zero, i.size, i.bytes)) = some (some (.int .u8 0), 1, 1) := by kernel_rfl
theorem info4 : (Tryz.prog.info? 4).map (fun i => (i.zero, i.size, i.bytes)) = some (some (.bool false), 1, 1) := by kernel_rfl
theorem made_u8 (n : Nat) : madeCells #[.int .u8 0] n = ((List.replicate n (0 : Int)).map (Value.int .u8)).toArray := by
  apply Array.ext'
  simp only [madeCells, Array.toList_map, Array.toList_range, List.map_replicate, List.size_toArray]
  rw [List.eq_replicate_iff]
  simp [Nat.mod_one]
theorem made_bl (n : Nat) : madeCells #[.bool false] n = ((List.replicate n false).map Value.bool).toArray := by
  apply Array.ext'
  simp only [madeCells, Array.toList_map, Array.toList_range, List.map_replicate, List.size_toArray]
  rw [List.eq_replicate_iff]
  simp [Nat.mod_one]
set_option maxRecDepth 100000 in
set_option maxHeartbeats 2000000 in
theorem new_any (n : Nat) (h1 : 1 ≤ n) (h2 : n ≤ 8192) (w : World) : Calls Tryz.prog 28 #[.int .i64 n] w fun e w' => ∃ b g1 g2, e = .returned (.tuple #[.pointer (some ⟨b, 0, none⟩), .int .i64 0]) ∧ RbAt w' b g1 g2 (newRb n) ∧ Below w.heap.size w w' ∧ w.heap.size ≤ b ∧ w.heap.size ≤ g1 ∧ w.heap.size ≤ g2 := by
  have k1 := run_make_row' (P := Tryz.prog) 60 5 (.int .u8 0) 1 Tryz.underlying60 info5 rfl .i64 .i64 n (by omega) (by omega)
  have k2 := run_make_row' (P := Tryz.prog) 97 4 (.bool false) 1 Tryz.underlying97 info4 rfl .i64 .i64 n (by omega) (by omega)
  have g1 : ((n : Int) < 1) = False := eq_false (by omega)
  have g2 : (8192 < (n : Int)) = False := eq_false (by omega)
  have g3 : decide ((n : Int) > 8192) = false := decide_eq_false (by omega)
  have g4 : decide ((n : Int) < 1) = false := decide_eq_false (by omega)
  go_enter Tryz.func28, Tryz.ntmps28
  go_wp2_with fail
  have B1 := Lib.hid (box3 w (.cells (madeCells #[.int .u8 0] n) 5) (.cells (madeCells #[.bool false] n) 4) (.cells #[.int .i64 0, .slice (some ⟨w.heap.size, 0, none⟩) n n, .slice (some ⟨w.heap.size + 1, 0, none⟩) n n, .int .i64 0, .int .i64 0, .bool false] 101))
  have B2 := Lib.hid (box3 w (.cells (madeCells #[.bool false] n) 4) (.cells (madeCells #[.int .u8 0] n) 5) (.cells #[.int .i64 0, .slice (some ⟨w.heap.size + 1, 0, none⟩) n n, .slice (some ⟨w.heap.size, 0, none⟩) n n, .int .i64 0, .int .i64 0, .bool false] 101))
  go_region
  · go_wp2
    go_returns
    obtain ⟨a1, a2, a3, a4, a5⟩ := B1.out
    refine ⟨w.heap.size + 1 + 1, w.heap.size, w.heap.size + 1, rfl, ⟨?_, ?_, ?_, by simp [newRb], by simp [newRb]; omega⟩, a4.drew, by omega, by omega, by omega⟩
    · refine Eq.trans a3 ?_; simp [Rb.cells, newRb]
    · refine Eq.trans a1 ?_; rw [made_u8]; simp [u8s, newRb]
    · refine Eq.trans a2 ?_; rw [made_bl]; simp [bls, newRb]
  · go_wp2
    go_returns
    obtain ⟨a1, a2, a3, a4, a5⟩ := B2.out
    refine ⟨w.heap.size + 1 + 1, w.heap.size + 1, w.heap.size, rfl, ⟨?_, ?_, ?_, by simp [newRb], by simp [newRb]; omega⟩, a4.drew, by omega, by omega, by omega⟩
    · refine Eq.trans a3 ?_; simp [Rb.cells, newRb]
    · refine Eq.trans a2 ?_; rw [made_u8]; simp [u8s, newRb]
    · refine Eq.trans a1 ?_; rw [made_bl]; simp [bls, newRb]
end Go.Proofs.YtpfkeohaaeiaaaaGreatDoor.rea
