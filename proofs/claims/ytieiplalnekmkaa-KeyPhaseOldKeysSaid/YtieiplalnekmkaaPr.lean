/- Law 25: pair. -/
import Derived.Test.YtieiplalnekmkaaSane
namespace Go.Proofs.Ytieiplalnekmkaa
open Go.RowKit
theorem wf_bounds {n : Int} (h : (Lit.int .i64 n).wf = true) : -9223372036854775808 ≤ n ∧ n ≤ 9223372036854775807 := by
  simp [Lit.wf, IntKind.min, IntKind.max, IntKind.bits, IntKind.signed] at h
  omega
/-- the first 20 bytes -/
def cutF (s : ByteArray) : ByteArray := s.extract 0 (min s.size 20)
def sec (s : ByteArray) : ByteArray := sfS (cutF s)
theorem cutF_size (s : ByteArray) : (cutF s).size ≤ 20 := by unfold cutF; simp; omega
theorem sec_size (s : ByteArray) : (sec s).size = 16 := sfS_size _
set_option maxRecDepth 100000 in
set_option maxHeartbeats 4000000 in
theorem pair_any (s t : ByteArray) (w : World) (hs : s.size ≤ maxLen) (ht : t.size ≤ maxLen) :
    Calls Try.prog 8 #[.string s, .string t] w fun e w' => ∃ W bp bq, e = .returned (.tuple #[.pointer (some ⟨W, 0, none⟩), .bool true]) ∧
      Tw w bp bq (nwP (sec s) (sec t)) (nwP (sec t) (sec s)) [(W, .cells #[.pointer (some ⟨bp, 0, none⟩), .pointer (some ⟨bq, 0, none⟩), .slice none 0 0, .slice none 0 0, .int .i64 0] 31)] w' := by
  unfold maxLen at hs ht
  have SS := Lib.hid (fun w => sf_any (cutF s) w (cutF_size s))
  have ST := Lib.hid (fun w => sf_any (cutF t) w (cutF_size t))
  have NA := Lib.hid (fun w => new_any (sec s) (sec t) w (sec_size s) (sec_size t))
  have NB := Lib.hid (fun w => new_any (sec t) (sec s) w (sec_size t) (sec_size s))
  have a1 : (if (20 : Int) < (s.size : Int) then 20 else (s.size : Int)) = ((min s.size 20 : Nat) : Int) := by omega
  have a2 : (if (20 : Int) < (t.size : Int) then 20 else (t.size : Int)) = ((min t.size 20 : Nat) : Int) := by omega
  unfold sec cutF at *
  have l1 : min s.size 20 ≤ s.size := Nat.min_le_left _ _
  have l2 : min t.size 20 ≤ t.size := Nat.min_le_left _ _
  generalize min s.size 20 = m at *
  generalize min t.size 20 = n at *
  have m0 : (0 : Int) ≤ (m : Int) := by omega
  have n0 : (0 : Int) ≤ (n : Int) := by omega
  have m1 : (m : Int) ≤ (s.size : Int) := by omega
  have n1 : (n : Int) ≤ (t.size : Int) := by omega
  generalize sfS (s.extract 0 m) = a at *
  generalize sfS (t.extract 0 n) = b at *
  go_enter Try.func8, Try.ntmps8
  go_wp2_with fail
  refine (SS.out _).mono ?_
  rintro e w1 ⟨rfl, h1⟩
  have H1 := Lib.hid h1
  clear h1
  go_wp2_with fail
  refine (ST.out _).mono ?_
  rintro e w2 ⟨rfl, h2⟩
  have H2 := Lib.hid (btrans H1.out h2)
  clear h2
  go_wp2_with fail
  refine (NA.out _).mono ?_
  rintro e w3 ⟨bp, rfl, h3⟩
  have H3 := Lib.hid h3
  clear h3
  go_wp2_with fail
  refine (NB.out _).mono ?_
  rintro e w4 ⟨bq, rfl, h4⟩
  have H4 := Lib.hid (two_new H3.out h4)
  clear h4
  go_wp2
  go_ret2
  have hz := H2.out.size
  have hlp := H4.out.lp
  have hlq := H4.out.lq
  exact ⟨_, bp, bq, rfl, Tw.alloc ⟨H4.out.hp, H4.out.hq, H4.out.ne, by omega, by omega, btrans H2.out H4.out.bel, fun x hx => by cases hx⟩ _⟩
end Go.Proofs.Ytieiplalnekmkaa
