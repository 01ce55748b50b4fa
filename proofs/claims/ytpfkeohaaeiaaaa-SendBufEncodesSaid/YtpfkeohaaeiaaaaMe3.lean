/- Texts FDv FSa FSb FS FSc of this claim, one behind the other. -/
import Derived.Test.YtpfkeohaaeiaaaaMe2
import Derived.Deep.QuietTactic
import Derived.BigQuiet
import Derived.StillTailTactics
import Derived.Deep.RegionWith
import Derived.Defers
import Derived.Recover
/- varint.Decode, and that it reads what Encode writes. Printed by gen/mkDv.py. -/
namespace Go.Proofs.Ytpfkeohaaeiaaaa.frm
open Go.RowKit
def wid (n : Int) : Int := if cls n < 0 then 0 else 2 ^ (cls n).toNat
set_option maxRecDepth 100000 in
set_option maxHeartbeats 2000000 in
theorem read_any (s : ByteArray) (a k : Nat) (w : World) (h : a + k ≤ s.size) (hs : s.size ≤ maxLen) (hk : k ≤ 8) :
    Calls Try.prog 75 #[.string s, .int .i64 a, .int .i64 k] w fun e w' => e = .returned (.int .u64 (beN (((bytesOf s).drop a).take k))) ∧ w = w' := by
  unfold maxLen at hs
  go_enter Try.func75, Try.ntmps75
  go_wp2
  go_loop [7, 10] (fun n i => ∃ j : Nat, j ≤ k ∧ i = .int .i64 j ∧ n = .int .u64 (beN (((bytesOf s).drop a).take j))) (fun _ i => k - (intOf i).toNat)
  case atStart => exact ⟨0, Nat.zero_le _, rfl, rfl⟩
  case round =>
    obtain ⟨j, hj, rfl, rfl⟩ := hrel
    by_cases hlt : j < k
    · have hw1 : IntKind.i64.wrap ((a : Int) + (j : Int)) = (a : Int) + (j : Int) := IntWalk.i64_in _ (by omega)
      have g0 : 0 ≤ (a : Int) + (j : Int) := by omega
      have g1 : ((a : Int) + (j : Int)).toNat = a + j := by omega
      have g2 : (a : Int) + (j : Int) < (s.size : Int) := by omega
      have g3 : a + j < s.size := by omega
      obtain ⟨v, hv⟩ : ∃ v, beN (((bytesOf s).drop a).take j) = v := ⟨_, rfl⟩
      rw [hv]
      have HV := Lib.hid hv
      clear hv
      have hst : ((bytesOf s).drop a).take (j + 1) = ((bytesOf s).drop a).take j ++ [((s[a + j]'g3).toNat : Int)] := by
        have := bytesOf_at s (a + j) g3
        have hl : j < ((bytesOf s).drop a).length := by rw [List.length_drop, bytesOf_length]; omega
        rw [List.take_succ_eq_append_getElem hl]
        congr 2
        rw [List.getElem_drop]
        rw [List.getElem?_eq_getElem (by rw [bytesOf_length]; exact g3)] at this
        exact Option.some.inj this
      have hb := bytesOf_range s _ (List.mem_of_getElem? (bytesOf_at s (a + j) g3))
      have hvb := beN_bound (((bytesOf s).drop a).take j) (fun x hx => bytesOf_range s x (List.mem_of_mem_drop (List.mem_of_mem_take hx)))
      rw [HV.out] at hvb
      have hlen : (((bytesOf s).drop a).take j).length = j := by rw [List.length_take, List.length_drop, bytesOf_length]; omega
      rw [hlen] at hvb
      have hp := p256 (show j ≤ 7 by omega)
      have HO := Lib.hid (or_byte v _ hvb.1 (Int.lt_of_lt_of_le hvb.2 hp) hb.1 hb.2)
      have HS : Hid (beN (((bytesOf s).drop a).take (j + 1)) = v * 256 + ((s[a + j]'g3).toNat : Int)) := Lib.hid (by rw [hst, beN_snoc, HV.out])
      clear hst hb hvb hlen hp
      go_wp2
      go_round
      case rel => exact ⟨j + 1, by omega, by simp, by rw [HS.out, HO.out]⟩
      case measure => simp [intOf]; omega
    · obtain rfl : j = k := by omega
      clear hlt
      go_wp2
      go_ret
      exact ⟨rfl, rfl⟩
def decV (l : List Int) (a : Int) : Int × Int × Int :=
  if a < 0 ∨ (l.length : Int) < a then (0, 0, 2)
  else if a = l.length then (0, 0, 11)
  else
    let c := (l[a.toNat]?.getD 0) / 64
    let k : Nat := 2 ^ c.toNat
    if (l.length : Int) - a < k then (0, 0, 11)
    else
      let n := beN ((l.drop a.toNat).take k) % (2 ^ (8 * k - 2))
      if cls n = c then (n, a + k, 0) else (0, 0, 10)
def trip (t : Int × Int × Int) : Value := .tuple #[.int .i64 t.1, .int .i64 t.2.1, .int .i64 t.2.2]
theorem decode_out (s : ByteArray) (a : Int) (w : World) (ha : a < 0 ∨ (s.size : Int) < a ∨ a = s.size) :
    Calls Try.prog 70 #[.string s, .int .i64 a] w fun e w' => e = .returned (trip (decV (bytesOf s) a)) ∧ Below w.heap.size w w' := by
  have hc : a < 0 ∨ (0 ≤ a ∧ (s.size : Int) < a) ∨ (0 ≤ a ∧ a = s.size) := by omega
  clear ha
  rcases hc with h | ⟨h0, h⟩ | ⟨h0, h⟩
  · have E : Hid (decV (bytesOf s) a = (0, 0, 2)) := Lib.hid (by unfold decV; rw [if_pos (.inl h)])
    go_enter Try.func70, Try.ntmps70
    go_wp2
    go_returns
    exact ⟨by rw [E.out]; rfl, Below.refl _ _⟩
  · have E : Hid (decV (bytesOf s) a = (0, 0, 2)) := Lib.hid (by unfold decV; rw [if_pos (.inr (by rw [bytesOf_length]; exact h))])
    go_enter Try.func70, Try.ntmps70
    go_wp2
    go_returns
    exact ⟨by rw [E.out]; rfl, Below.refl _ _⟩
  · have E : Hid (decV (bytesOf s) a = (0, 0, 11)) := Lib.hid (by unfold decV; rw [bytesOf_length, if_neg (by omega), if_pos h])
    subst h
    go_enter Try.func70, Try.ntmps70
    go_wp2
    go_returns
    exact ⟨by rw [E.out]; rfl, Below.refl _ _⟩
theorem and_mask (N : Int) (m : Nat) (h0 : 0 ≤ N) (h1 : N < 18446744073709551616) (hm : m ≤ 62) : bits .and .u64 N ((2 ^ m - 1 : Nat) : Int) = N % ((2 ^ m : Nat) : Int) := by
  obtain ⟨n, rfl⟩ := Int.eq_ofNat_of_zero_le h0
  have hp : 2 ^ m ≤ 2 ^ 62 := Nat.pow_le_pow_right (by decide) hm
  have h62 : (2 : Nat) ^ 62 = 4611686018427387904 := by decide
  rw [u64_and_nat _ _ (by omega) (by omega), Nat.and_two_pow_sub_one_eq_mod]
  simp
set_option maxRecDepth 100000 in
set_option maxHeartbeats 4000000 in
theorem decode_c0 (s : ByteArray) (a : Nat) (w : World) (ha : a < s.size) (hs : s.size ≤ maxLen) (hc : (((s[a]'ha).toNat : Int)) / 64 = 0) :
    Calls Try.prog 70 #[.string s, .int .i64 a] w fun e w' => e = .returned (trip (decV (bytesOf s) a)) ∧ Below w.heap.size w w' := by
  have hat := bytesOf_at s a ha
  have E0 : decV (bytesOf s) a = if (s.size : Int) - a < 1 then (0, 0, 11) else if cls (beN (((bytesOf s).drop a).take 1) % 64) = 0 then (beN (((bytesOf s).drop a).take 1) % 64, (a : Int) + 1, 0) else (0, 0, 10) := by
    unfold decV
    rw [bytesOf_length, if_neg (by omega), if_neg (by omega), Int.toNat_natCast, hat, Option.getD_some, hc]
    rfl
  have hs0 := hs
  unfold maxLen at hs
  by_cases hsh : (s.size : Int) - a < 1
  · have E : Hid (decV (bytesOf s) a = (0, 0, 11)) := Lib.hid (by rw [E0, if_pos hsh])
    clear E0 hat
    first
      | (exfalso; omega)
      | (go_enter Try.func70, Try.ntmps70
         go_wp2
         go_returns
         exact ⟨by rw [E.out]; rfl, Below.refl _ _⟩)
  · rw [if_neg hsh] at E0
    have RD := Lib.hid (fun n => (read_any s a 1 (w.drewN n) (by omega) hs0 (by decide)).mono (fun e w' h => (⟨h.1, h.2.symm⟩ : e = _ ∧ w' = _)))
    have hvb := beN_bound (((bytesOf s).drop a).take 1) (fun x hx => bytesOf_range s x (List.mem_of_mem_drop (List.mem_of_mem_take hx)))
    have hlen : (((bytesOf s).drop a).take 1).length = 1 := by rw [List.length_take, List.length_drop, bytesOf_length]; omega
    rw [hlen] at hvb
    generalize beN (((bytesOf s).drop a).take 1) = N at *
    have hp : (256 : Int) ^ 1 = 256 := by decide
    rw [hp] at hvb
    have hM : bits .and .u64 N 63 = N % 64 := and_mask N 6 hvb.1 (by omega) (by decide)
    have hn : 0 ≤ N % 64 ∧ N % 64 < 64 := ⟨Int.emod_nonneg _ (by decide), Int.emod_lt_of_pos _ (by decide)⟩
    obtain ⟨n, hnn⟩ : ∃ n, N % 64 = n := ⟨_, rfl⟩
    rw [hnn] at hM hn E0
    have hw : IntKind.i64.wrap n = n := IntWalk.i64_in _ (by omega)
    have hwa : IntKind.i64.wrap ((a : Int) + 1) = (a : Int) + 1 := IntWalk.i64_in _ (by omega)
    have CL := Lib.hid (fun (wx : World) => class_any n wx)
    have HE := Lib.hid E0
    clear E0 hat hp hlen hnn
    by_cases hcl : cls n = 0
    · have E : Hid (decV (bytesOf s) a = (n, (a : Int) + 1, 0)) := Lib.hid (by rw [HE.out, if_pos hcl])
      rw [hcl] at CL
      clear hcl
      go_enter Try.func70, Try.ntmps70
      go_wp2
      go_quiet ((go_at_call 75; exact Calls.quiet_of_same (RD.out _)))
      go_wp2_with (go_at_call 72; refine (CL.out _).mono ?_; rintro e w' ⟨rfl, hb⟩)
      go_returns
      exact ⟨by rw [E.out]; rfl, ⟨hb.os, hb.tape, hb.output, hb.size, hb.block⟩⟩
    · have E : Hid (decV (bytesOf s) a = (0, 0, 10)) := Lib.hid (by rw [HE.out, if_neg hcl])
      have hb1 : (cls n == 0) = false := by simp [hcl]
      have hb2 : (cls n != 0) = true := by simp [hcl]
      clear hcl
      go_enter Try.func70, Try.ntmps70
      go_wp2
      go_quiet ((go_at_call 75; exact Calls.quiet_of_same (RD.out _)))
      go_wp2_with (go_at_call 72; refine (CL.out _).mono ?_; rintro e w' ⟨rfl, hb⟩)
      go_returns
      exact ⟨by rw [E.out]; rfl, ⟨hb.os, hb.tape, hb.output, hb.size, hb.block⟩⟩
set_option maxRecDepth 100000 in
set_option maxHeartbeats 4000000 in
theorem decode_c1 (s : ByteArray) (a : Nat) (w : World) (ha : a < s.size) (hs : s.size ≤ maxLen) (hc : (((s[a]'ha).toNat : Int)) / 64 = 1) :
    Calls Try.prog 70 #[.string s, .int .i64 a] w fun e w' => e = .returned (trip (decV (bytesOf s) a)) ∧ Below w.heap.size w w' := by
  have hat := bytesOf_at s a ha
  have E0 : decV (bytesOf s) a = if (s.size : Int) - a < 2 then (0, 0, 11) else if cls (beN (((bytesOf s).drop a).take 2) % 16384) = 1 then (beN (((bytesOf s).drop a).take 2) % 16384, (a : Int) + 2, 0) else (0, 0, 10) := by
    unfold decV
    rw [bytesOf_length, if_neg (by omega), if_neg (by omega), Int.toNat_natCast, hat, Option.getD_some, hc]
    rfl
  have hs0 := hs
  unfold maxLen at hs
  by_cases hsh : (s.size : Int) - a < 2
  · have E : Hid (decV (bytesOf s) a = (0, 0, 11)) := Lib.hid (by rw [E0, if_pos hsh])
    clear E0 hat
    first
      | (exfalso; omega)
      | (go_enter Try.func70, Try.ntmps70
         go_wp2
         go_returns
         exact ⟨by rw [E.out]; rfl, Below.refl _ _⟩)
  · rw [if_neg hsh] at E0
    have RD := Lib.hid (fun n => (read_any s a 2 (w.drewN n) (by omega) hs0 (by decide)).mono (fun e w' h => (⟨h.1, h.2.symm⟩ : e = _ ∧ w' = _)))
    have hvb := beN_bound (((bytesOf s).drop a).take 2) (fun x hx => bytesOf_range s x (List.mem_of_mem_drop (List.mem_of_mem_take hx)))
    have hlen : (((bytesOf s).drop a).take 2).length = 2 := by rw [List.length_take, List.length_drop, bytesOf_length]; omega
    rw [hlen] at hvb
    generalize beN (((bytesOf s).drop a).take 2) = N at *
    have hp : (256 : Int) ^ 2 = 65536 := by decide
    rw [hp] at hvb
    have hM : bits .and .u64 N 16383 = N % 16384 := and_mask N 14 hvb.1 (by omega) (by decide)
    have hn : 0 ≤ N % 16384 ∧ N % 16384 < 16384 := ⟨Int.emod_nonneg _ (by decide), Int.emod_lt_of_pos _ (by decide)⟩
    obtain ⟨n, hnn⟩ : ∃ n, N % 16384 = n := ⟨_, rfl⟩
    rw [hnn] at hM hn E0
    have hw : IntKind.i64.wrap n = n := IntWalk.i64_in _ (by omega)
    have hwa : IntKind.i64.wrap ((a : Int) + 2) = (a : Int) + 2 := IntWalk.i64_in _ (by omega)
    have CL := Lib.hid (fun (wx : World) => class_any n wx)
    have HE := Lib.hid E0
    clear E0 hat hp hlen hnn
    by_cases hcl : cls n = 1
    · have E : Hid (decV (bytesOf s) a = (n, (a : Int) + 2, 0)) := Lib.hid (by rw [HE.out, if_pos hcl])
      rw [hcl] at CL
      clear hcl
      go_enter Try.func70, Try.ntmps70
      go_wp2
      go_quiet ((go_at_call 75; exact Calls.quiet_of_same (RD.out _)))
      go_wp2_with (go_at_call 72; refine (CL.out _).mono ?_; rintro e w' ⟨rfl, hb⟩)
      go_returns
      exact ⟨by rw [E.out]; rfl, ⟨hb.os, hb.tape, hb.output, hb.size, hb.block⟩⟩
    · have E : Hid (decV (bytesOf s) a = (0, 0, 10)) := Lib.hid (by rw [HE.out, if_neg hcl])
      have hb1 : (cls n == 1) = false := by simp [hcl]
      have hb2 : (cls n != 1) = true := by simp [hcl]
      clear hcl
      go_enter Try.func70, Try.ntmps70
      go_wp2
      go_quiet ((go_at_call 75; exact Calls.quiet_of_same (RD.out _)))
      go_wp2_with (go_at_call 72; refine (CL.out _).mono ?_; rintro e w' ⟨rfl, hb⟩)
      go_returns
      exact ⟨by rw [E.out]; rfl, ⟨hb.os, hb.tape, hb.output, hb.size, hb.block⟩⟩
set_option maxRecDepth 100000 in
set_option maxHeartbeats 4000000 in
theorem decode_c2 (s : ByteArray) (a : Nat) (w : World) (ha : a < s.size) (hs : s.size ≤ maxLen) (hc : (((s[a]'ha).toNat : Int)) / 64 = 2) :
    Calls Try.prog 70 #[.string s, .int .i64 a] w fun e w' => e = .returned (trip (decV (bytesOf s) a)) ∧ Below w.heap.size w w' := by
  have hat := bytesOf_at s a ha
  have E0 : decV (bytesOf s) a = if (s.size : Int) - a < 4 then (0, 0, 11) else if cls (beN (((bytesOf s).drop a).take 4) % 1073741824) = 2 then (beN (((bytesOf s).drop a).take 4) % 1073741824, (a : Int) + 4, 0) else (0, 0, 10) := by
    unfold decV
    rw [bytesOf_length, if_neg (by omega), if_neg (by omega), Int.toNat_natCast, hat, Option.getD_some, hc]
    rfl
  have hs0 := hs
  unfold maxLen at hs
  by_cases hsh : (s.size : Int) - a < 4
  · have E : Hid (decV (bytesOf s) a = (0, 0, 11)) := Lib.hid (by rw [E0, if_pos hsh])
    clear E0 hat
    first
      | (exfalso; omega)
      | (go_enter Try.func70, Try.ntmps70
         go_wp2
         go_returns
         exact ⟨by rw [E.out]; rfl, Below.refl _ _⟩)
  · rw [if_neg hsh] at E0
    have RD := Lib.hid (fun n => (read_any s a 4 (w.drewN n) (by omega) hs0 (by decide)).mono (fun e w' h => (⟨h.1, h.2.symm⟩ : e = _ ∧ w' = _)))
    have hvb := beN_bound (((bytesOf s).drop a).take 4) (fun x hx => bytesOf_range s x (List.mem_of_mem_drop (List.mem_of_mem_take hx)))
    have hlen : (((bytesOf s).drop a).take 4).length = 4 := by rw [List.length_take, List.length_drop, bytesOf_length]; omega
    rw [hlen] at hvb
    generalize beN (((bytesOf s).drop a).take 4) = N at *
    have hp : (256 : Int) ^ 4 = 4294967296 := by decide
    rw [hp] at hvb
    have hM : bits .and .u64 N 1073741823 = N % 1073741824 := and_mask N 30 hvb.1 (by omega) (by decide)
    have hn : 0 ≤ N % 1073741824 ∧ N % 1073741824 < 1073741824 := ⟨Int.emod_nonneg _ (by decide), Int.emod_lt_of_pos _ (by decide)⟩
    obtain ⟨n, hnn⟩ : ∃ n, N % 1073741824 = n := ⟨_, rfl⟩
    rw [hnn] at hM hn E0
    have hw : IntKind.i64.wrap n = n := IntWalk.i64_in _ (by omega)
    have hwa : IntKind.i64.wrap ((a : Int) + 4) = (a : Int) + 4 := IntWalk.i64_in _ (by omega)
    have CL := Lib.hid (fun (wx : World) => class_any n wx)
    have HE := Lib.hid E0
    clear E0 hat hp hlen hnn
    by_cases hcl : cls n = 2
    · have E : Hid (decV (bytesOf s) a = (n, (a : Int) + 4, 0)) := Lib.hid (by rw [HE.out, if_pos hcl])
      rw [hcl] at CL
      clear hcl
      go_enter Try.func70, Try.ntmps70
      go_wp2
      go_quiet ((go_at_call 75; exact Calls.quiet_of_same (RD.out _)))
      go_wp2_with (go_at_call 72; refine (CL.out _).mono ?_; rintro e w' ⟨rfl, hb⟩)
      go_returns
      exact ⟨by rw [E.out]; rfl, ⟨hb.os, hb.tape, hb.output, hb.size, hb.block⟩⟩
    · have E : Hid (decV (bytesOf s) a = (0, 0, 10)) := Lib.hid (by rw [HE.out, if_neg hcl])
      have hb1 : (cls n == 2) = false := by simp [hcl]
      have hb2 : (cls n != 2) = true := by simp [hcl]
      clear hcl
      go_enter Try.func70, Try.ntmps70
      go_wp2
      go_quiet ((go_at_call 75; exact Calls.quiet_of_same (RD.out _)))
      go_wp2_with (go_at_call 72; refine (CL.out _).mono ?_; rintro e w' ⟨rfl, hb⟩)
      go_returns
      exact ⟨by rw [E.out]; rfl, ⟨hb.os, hb.tape, hb.output, hb.size, hb.block⟩⟩
set_option maxRecDepth 100000 in
set_option maxHeartbeats 4000000 in
theorem decode_c3 (s : ByteArray) (a : Nat) (w : World) (ha : a < s.size) (hs : s.size ≤ maxLen) (hc : (((s[a]'ha).toNat : Int)) / 64 = 3) :
    Calls Try.prog 70 #[.string s, .int .i64 a] w fun e w' => e = .returned (trip (decV (bytesOf s) a)) ∧ Below w.heap.size w w' := by
  have hat := bytesOf_at s a ha
  have E0 : decV (bytesOf s) a = if (s.size : Int) - a < 8 then (0, 0, 11) else if cls (beN (((bytesOf s).drop a).take 8) % 4611686018427387904) = 3 then (beN (((bytesOf s).drop a).take 8) % 4611686018427387904, (a : Int) + 8, 0) else (0, 0, 10) := by
    unfold decV
    rw [bytesOf_length, if_neg (by omega), if_neg (by omega), Int.toNat_natCast, hat, Option.getD_some, hc]
    rfl
  have hs0 := hs
  unfold maxLen at hs
  by_cases hsh : (s.size : Int) - a < 8
  · have E : Hid (decV (bytesOf s) a = (0, 0, 11)) := Lib.hid (by rw [E0, if_pos hsh])
    clear E0 hat
    first
      | (exfalso; omega)
      | (go_enter Try.func70, Try.ntmps70
         go_wp2
         go_returns
         exact ⟨by rw [E.out]; rfl, Below.refl _ _⟩)
  · rw [if_neg hsh] at E0
    have RD := Lib.hid (fun n => (read_any s a 8 (w.drewN n) (by omega) hs0 (by decide)).mono (fun e w' h => (⟨h.1, h.2.symm⟩ : e = _ ∧ w' = _)))
    have hvb := beN_bound (((bytesOf s).drop a).take 8) (fun x hx => bytesOf_range s x (List.mem_of_mem_drop (List.mem_of_mem_take hx)))
    have hlen : (((bytesOf s).drop a).take 8).length = 8 := by rw [List.length_take, List.length_drop, bytesOf_length]; omega
    rw [hlen] at hvb
    generalize beN (((bytesOf s).drop a).take 8) = N at *
    have hp : (256 : Int) ^ 8 = 18446744073709551616 := by decide
    rw [hp] at hvb
    have hM : bits .and .u64 N 4611686018427387903 = N % 4611686018427387904 := and_mask N 62 hvb.1 (by omega) (by decide)
    have hn : 0 ≤ N % 4611686018427387904 ∧ N % 4611686018427387904 < 4611686018427387904 := ⟨Int.emod_nonneg _ (by decide), Int.emod_lt_of_pos _ (by decide)⟩
    obtain ⟨n, hnn⟩ : ∃ n, N % 4611686018427387904 = n := ⟨_, rfl⟩
    rw [hnn] at hM hn E0
    have hw : IntKind.i64.wrap n = n := IntWalk.i64_in _ (by omega)
    have hwa : IntKind.i64.wrap ((a : Int) + 8) = (a : Int) + 8 := IntWalk.i64_in _ (by omega)
    have CL := Lib.hid (fun (wx : World) => class_any n wx)
    have HE := Lib.hid E0
    clear E0 hat hp hlen hnn
    by_cases hcl : cls n = 3
    · have E : Hid (decV (bytesOf s) a = (n, (a : Int) + 8, 0)) := Lib.hid (by rw [HE.out, if_pos hcl])
      rw [hcl] at CL
      clear hcl
      go_enter Try.func70, Try.ntmps70
      go_wp2
      go_quiet ((go_at_call 75; exact Calls.quiet_of_same (RD.out _)))
      go_wp2_with (go_at_call 72; refine (CL.out _).mono ?_; rintro e w' ⟨rfl, hb⟩)
      go_returns
      exact ⟨by rw [E.out]; rfl, ⟨hb.os, hb.tape, hb.output, hb.size, hb.block⟩⟩
    · have E : Hid (decV (bytesOf s) a = (0, 0, 10)) := Lib.hid (by rw [HE.out, if_neg hcl])
      have hb1 : (cls n == 3) = false := by simp [hcl]
      have hb2 : (cls n != 3) = true := by simp [hcl]
      clear hcl
      go_enter Try.func70, Try.ntmps70
      go_wp2
      go_quiet ((go_at_call 75; exact Calls.quiet_of_same (RD.out _)))
      go_wp2_with (go_at_call 72; refine (CL.out _).mono ?_; rintro e w' ⟨rfl, hb⟩)
      go_returns
      exact ⟨by rw [E.out]; rfl, ⟨hb.os, hb.tape, hb.output, hb.size, hb.block⟩⟩
theorem decode_any (s : ByteArray) (a : Int) (w : World) (hs : s.size ≤ maxLen) :
    Calls Try.prog 70 #[.string s, .int .i64 a] w fun e w' => e = .returned (trip (decV (bytesOf s) a)) ∧ Below w.heap.size w w' := by
  by_cases h : a < 0 ∨ (s.size : Int) < a ∨ a = s.size
  · exact decode_out s a w h
  · obtain ⟨k, rfl⟩ : ∃ k : Nat, a = k := ⟨a.toNat, by omega⟩
    have hk : k < s.size := by omega
    have hb := bytesOf_range s _ (List.mem_of_getElem? (bytesOf_at s k hk))
    have hc : (((s[k]'hk).toNat : Int)) / 64 = 0 ∨ (((s[k]'hk).toNat : Int)) / 64 = 1 ∨ (((s[k]'hk).toNat : Int)) / 64 = 2 ∨ (((s[k]'hk).toNat : Int)) / 64 = 3 := by omega
    rcases hc with hc | hc | hc | hc
    · exact decode_c0 s k w hk hs hc
    · exact decode_c1 s k w hk hs hc
    · exact decode_c2 s k w hk hs hc
    · exact decode_c3 s k w hk hs hc
theorem beB_snoc (w : Nat) (N : Int) : beB (w + 1) N = beB w (N / 256) ++ [N % 256] := by
  unfold beB
  rw [List.range_succ, List.map_append]
  congr 1
  · apply List.map_congr_left
    intro j hj
    have hj' : j < w := List.mem_range.1 hj
    have e : 8 * (w + 1 - 1 - j) = 8 + 8 * (w - 1 - j) := by omega
    rw [e, Int.pow_add, ← Int.ediv_ediv_of_nonneg (by decide)]
    rfl
  · simp
theorem beB_range (w : Nat) (N : Int) : ∀ x ∈ beB w N, 0 ≤ x ∧ x ≤ 255 := by
  intro x hx
  obtain ⟨j, _, rfl⟩ := List.mem_map.1 hx
  omega
theorem beN_beB : ∀ (w : Nat) (N : Int), 0 ≤ N → N < 256 ^ w → beN (beB w N) = N := by
  intro w
  induction w with
  | zero => intro N h0 h1; simp at h1; have : N = 0 := by omega
            subst this; rfl
  | succ w ih =>
    intro N h0 h1
    rw [beB_snoc, beN_snoc, ih (N / 256) (by omega) (by rw [Int.pow_succ] at h1; omega)]
    omega
theorem beB_beN (l : List Int) (h : ∀ x ∈ l, 0 ≤ x ∧ x ≤ 255) : beB l.length (beN l) = l := by
  have key : ∀ (k : Nat) (l : List Int), l.length = k → (∀ x ∈ l, 0 ≤ x ∧ x ≤ 255) → beB k (beN l) = l := by
    intro k
    induction k with
    | zero => intro l e _; have := List.length_eq_zero_iff.1 e; subst this; rfl
    | succ k ih =>
      intro l e h
      rcases List.eq_nil_or_concat l with rfl | ⟨l', x, rfl⟩
      · simp at e
      · simp at e
        have hx := h x (by simp)
        rw [List.concat_eq_append, beN_snoc, beB_snoc]
        have e1 : (beN l' * 256 + x) / 256 = beN l' := by omega
        have e2 : (beN l' * 256 + x) % 256 = x := by omega
        rw [e1, e2, ih l' e (fun y hy => h y (by simp [hy]))]
  exact key _ l rfl h
theorem cls_case (n : Int) (h : 0 ≤ cls n) : 0 ≤ n ∧ ((cls n = 0 ∧ n ≤ 63) ∨ (cls n = 1 ∧ 63 < n ∧ n ≤ 16383) ∨ (cls n = 2 ∧ 16383 < n ∧ n ≤ 1073741823) ∨ (cls n = 3 ∧ 1073741823 < n ∧ n ≤ 4611686018427387903)) := by
  unfold cls at h ⊢
  (repeat' split at h) <;> simp_all <;> omega
theorem encV_eq (n : Int) (c : Int) (hc : 0 ≤ c) (h : cls n = c) : encV n = beB (2 ^ c.toNat) (n + c * 2 ^ (8 * 2 ^ c.toNat - 2)) := by
  subst h
  unfold encV
  rw [if_neg (by omega)]
theorem encV_wid (n : Int) : ((encV n).length : Int) = wid n := by
  unfold encV wid
  split
  · rfl
  · rw [beB_len]; simp
theorem encV_range (n : Int) : ∀ x ∈ encV n, 0 ≤ x ∧ x ≤ 255 := by
  unfold encV
  split
  · intro x hx; simp at hx
  · exact beB_range _ _
theorem beB_head (w : Nat) (N : Int) : (beB (w + 1) N)[0]? = some (N / 2 ^ (8 * w) % 256) := by
  unfold beB
  rw [List.getElem?_map]
  simp
/-- what was encoded is decoded -/
theorem decV_enc (n : Int) (h : 0 ≤ cls n) (pre suf : List Int) : decV (pre ++ (encV n ++ suf)) pre.length = (n, pre.length + wid n, 0) := by
  obtain ⟨h0, hc⟩ := cls_case n h
  have key : ∀ (c : Int) (w : Nat) (C M : Int), 0 ≤ c → cls n = c → 2 ^ c.toNat = w + 1 → C = c * 2 ^ (8 * (w + 1) - 2) → M = 2 ^ (8 * (w + 1) - 2) → (n + C) % M = n → (n + C) / 2 ^ (8 * w) % 256 / 64 = c → 0 ≤ n + C → n + C < 256 ^ (w + 1) → decV (pre ++ (encV n ++ suf)) pre.length = (n, pre.length + wid n, 0) := by
    intro c w C M hc0 hcl hw hC hM hmod hhead hN0 hN1
    have e := encV_eq n c hc0 hcl
    rw [hw, ← hC] at e
    have hwid : wid n = (w : Int) + 1 := by
      unfold wid; rw [hcl, if_neg (by omega)]
      have := congrArg (Nat.cast (R := Int)) hw
      simpa using this
    have hlen : (encV n).length = w + 1 := by rw [e, beB_len]
    have hat : (pre ++ (encV n ++ suf))[pre.length]? = some ((n + C) / 2 ^ (8 * w) % 256) := by
      rw [List.getElem?_append_right (Nat.le_refl _), Nat.sub_self, List.getElem?_append_left (by omega), e, beB_head]
    have hdrop : ((pre ++ (encV n ++ suf)).drop pre.length).take (w + 1) = encV n := by
      rw [List.drop_left, ← hlen, List.take_left]
    unfold decV
    rw [if_neg (by simp; omega), if_neg (by simp; omega), Int.toNat_natCast, hat, Option.getD_some, hhead]
    simp only [hw]
    rw [if_neg (by simp; omega), hdrop, e, beN_beB _ _ hN0 hN1, ← hM, hmod, if_pos hcl, hwid]
    simp
  rcases hc with ⟨hcl, h1⟩ | ⟨hcl, h1, h2⟩ | ⟨hcl, h1, h2⟩ | ⟨hcl, h1, h2⟩
  · exact key 0 0 0 64 (by decide) hcl rfl rfl rfl (by omega) (by simp; omega) (by omega) (by simp; omega)
  · exact key 1 1 16384 16384 (by decide) hcl rfl rfl rfl (by omega) (by simp; omega) (by omega) (by simp; omega)
  · exact key 2 3 2147483648 1073741824 (by decide) hcl rfl rfl rfl (by omega) (by simp; omega) (by omega) (by simp; omega)
  · exact key 3 7 13835058055282163712 4611686018427387904 (by decide) hcl rfl rfl rfl (by omega) (by simp; omega) (by omega) (by simp; omega)
/-- what is decoded was encoded -/
theorem decV_ok (l : List Int) (a : Nat) (hl : ∀ x ∈ l, 0 ≤ x ∧ x ≤ 255) (n b : Int) (h : decV l a = (n, b, 0)) :
    0 ≤ cls n ∧ b = a + wid n ∧ b ≤ l.length ∧ (l.drop a).take (encV n).length = encV n := by
  unfold decV at h
  split at h
  · cases h
  · rename_i ha
    split at h
    · cases h
    · rename_i ha2
      simp only [Int.toNat_natCast] at h
      have hal : a < l.length := by omega
      obtain ⟨x, hx⟩ : ∃ x, l[a]? = some x := ⟨_, List.getElem?_eq_getElem hal⟩
      rw [hx, Option.getD_some] at h
      have hxr := hl x (List.mem_of_getElem? hx)
      have hc : x / 64 = 0 ∨ x / 64 = 1 ∨ x / 64 = 2 ∨ x / 64 = 3 := by omega
      have key : ∀ (c : Int) (w : Nat) (M : Int), 0 ≤ c → x / 64 = c → 2 ^ c.toNat = w + 1 → M = 2 ^ (8 * (w + 1) - 2) →
          (∀ N : Int, 0 ≤ N → N < 256 ^ (w + 1) → N / 2 ^ (8 * w) % 256 = x → N % M + c * 2 ^ (8 * (w + 1) - 2) = N) →
          0 ≤ cls n ∧ b = a + wid n ∧ b ≤ l.length ∧ (l.drop a).take (encV n).length = encV n := by
        intro c w M hc0 hxc hw hM hN
        rw [hxc, hw, ← hM] at h
        split at h
        · cases h
        · rename_i hshort
          split at h
          · rename_i hcl
            simp only [Prod.mk.injEq] at h
            obtain ⟨hn, hb, _⟩ := h
            rw [hn] at hcl
            have hwid : wid n = (w : Int) + 1 := by
              unfold wid; rw [hcl, if_neg (by omega)]
              have := congrArg (Nat.cast (R := Int)) hw
              simpa using this
            have hch : ((l.drop a).take (w + 1)).length = w + 1 := by rw [List.length_take, List.length_drop]; omega
            have hr : ∀ y ∈ (l.drop a).take (w + 1), 0 ≤ y ∧ y ≤ 255 := fun y hy => hl y (List.mem_of_mem_drop (List.mem_of_mem_take hy))
            have hB := beB_beN _ hr
            rw [hch] at hB
            have hbd := beN_bound _ hr
            rw [hch] at hbd
            have h0 := beB_head w (beN ((l.drop a).take (w + 1)))
            rw [hB, List.getElem?_take_of_lt (by omega), List.getElem?_drop, Nat.add_zero, hx] at h0
            have hfin := hN _ hbd.1 hbd.2 (Option.some.inj h0).symm
            rw [hn] at hfin
            have e := encV_eq n c hc0 hcl
            rw [hw, hfin, hB] at e
            refine ⟨by omega, by rw [hwid]; omega, by omega, ?_⟩
            rw [e, hch]
          · cases h
      rcases hc with hc | hc | hc | hc
      · exact key 0 0 64 (by decide) hc rfl rfl (fun N h1 h2 h3 => by simp at h2 h3 ⊢; omega)
      · exact key 1 1 16384 (by decide) hc rfl rfl (fun N h1 h2 h3 => by simp at h2 h3 ⊢; omega)
      · exact key 2 3 1073741824 (by decide) hc rfl rfl (fun N h1 h2 h3 => by simp at h2 h3 ⊢; omega)
      · exact key 3 7 4611686018427387904 (by decide) hc rfl rfl (fun N h1 h2 h3 => by simp at h2 h3 ⊢; omega)
/-- the first k numbers, and where they end -/
theorem bytes_of_nums (l : List Int) (h : ∀ x ∈ l, 0 ≤ x ∧ x ≤ 255) : bytesOf (strOfNums l) = l := by
  unfold bytesOf
  rw [strOfNums_data, List.map_map]
  conv => rhs; rw [← List.map_id l]
  apply List.map_congr_left
  intro x hx
  have := h x hx
  obtain ⟨n, rfl⟩ := Int.eq_ofNat_of_zero_le this.1
  simp only [Function.comp, Int.toNat_natCast, id]
  rw [UInt8.toNat_ofNat_of_lt' (by show n < 256; omega)]
theorem bytesOf_append (s t : ByteArray) : bytesOf (s ++ t) = bytesOf s ++ bytesOf t := by
  unfold bytesOf; simp
end Go.Proofs.Ytpfkeohaaeiaaaa.frm
/- STREAM frames: their parts looked up; the parts' closures. -/
namespace Go.Proofs.Ytpfkeohaaeiaaaa.frm
open Go.RowKit Go.Maps
/-- a row of the table of parts, looked up -/
theorem row_look {w0 w : World} {bx : Nat → Array Value} {L : Nat → Bool} {M : Nat} (h : Mp w0 bx L (.map (some M)) w) (hL : ∀ i, i < 78 → L i = true) {i t : Nat} {k : Int} {xs : List Nat}
    (hi : i < 78) (r1 : rows[i]? = some (none, .ins k t)) (r2 : rows[ix t]? = some (some t, .sl xs)) (hk : keyOf Try.prog 3 (.int .i64 k) = some (.int .i64 k)) :
    ∃ g cs, w.heap[g]? = some (.cells cs 63 (0, 0)) ∧ Pts bx xs cs w ∧
      (Instr.lookup 57 (.map (some M)) (.int .i64 k) true).run Try.prog w = .ok (.tuple #[.slice (some ⟨g, 0, none⟩) xs.length xs.length, .bool true]) w ∧
      (Instr.lookup 57 (.map (some M)) (.int .i64 k) false).run Try.prog w = .ok (.slice (some ⟨g, 0, none⟩) xs.length xs.length) w := by
  obtain ⟨M', n, D, h1, h2, h3, h4, h5, h6⟩ := h
  cases h1
  obtain ⟨u, s, e1, e2, e3⟩ := h6 i k t r1 (hL i hi)
  rw [r2] at e2
  cases e2
  obtain ⟨g, cs, rfl, hg, hp⟩ := e3
  obtain ⟨hh, hz⟩ := has_of_atKey e1 (by simp [undef])
  refine ⟨g, cs, hg, hp, ?_, ?_⟩
  · have := h2.look_ok (t := 57) (e := 56) (K := Maps.int_keyed Try.underlying3) Try.underlying57 (Try.zeroValue56 w) hk (hz _)
    rw [hh] at this; exact this
  · exact h2.look (t := 57) (e := 56) (K := Maps.int_keyed Try.underlying3) Try.underlying57 (Try.zeroValue56 w) hk (hz _)
theorem row31 : rows[31]? = some (none, .ins 8 47) := by kernel_rfl
theorem row47 : rows[ix 47]? = some (some 47, .sl [44, 45, 46]) := by kernel_rfl
theorem row44 : rows[ix 44]? = some (some 44, .ld 1) := by kernel_rfl
theorem row45 : rows[ix 45]? = some (some 45, .ld 5) := by kernel_rfl
theorem row46 : rows[ix 46]? = some (some 46, .ld 8) := by kernel_rfl
theorem key8 : keyOf Try.prog 3 (.int .i64 8) = some (.int .i64 8) := Maps.keyOf_int_mk Try.underlying3 (by decide)
/-- the parts of a STREAM frame -/
theorem str_row {w0 w : World} {bx : Nat → Array Value} {L : Nat → Bool} {M : Nat} (h : Mp w0 bx L (.map (some M)) w) (hL : ∀ i, i < 78 → L i = true) :
    ∃ g, w.heap[g]? = some (.cells (bx 1 ++ (bx 5 ++ bx 8)) 63 (0, 0)) ∧
      (Instr.lookup 57 (.map (some M)) (.int .i64 8) true).run Try.prog w = .ok (.tuple #[.slice (some ⟨g, 0, none⟩) 3 3, .bool true]) w ∧
      (Instr.lookup 57 (.map (some M)) (.int .i64 8) false).run Try.prog w = .ok (.slice (some ⟨g, 0, none⟩) 3 3) w := by
  obtain ⟨g, cs, hg, hp, l1, l2⟩ := row_look h hL (by decide) row31 row47 key8
  obtain ⟨c1, d1, s1, rfl, z1, r1, p1, hp⟩ := hp
  rw [row44] at r1; cases r1
  obtain ⟨c2, d2, s2, rfl, z2, r2, p2, hp⟩ := hp
  rw [row45] at r2; cases r2
  obtain ⟨c3, d3, s3, rfl, z3, r3, p3, hp⟩ := hp
  rw [row46] at r3; cases r3
  cases hp
  cases p1; cases p2; cases p3
  refine ⟨g, ?_, l1, l2⟩
  rw [hg]; simp
theorem fld1_any (b : Nat) (w : World) : Calls Try.prog 32 #[.pointer (some ⟨b, 0, none⟩)] w fun e w' => e = .returned (.pointer (some ⟨b, 1, none⟩)) ∧ w = w' := by
  go_enter Try.func32, Try.ntmps32
  go_wp2
  go_ret
  exact ⟨rfl, rfl⟩
theorem fld2_any (b : Nat) (w : World) : Calls Try.prog 36 #[.pointer (some ⟨b, 0, none⟩)] w fun e w' => e = .returned (.pointer (some ⟨b, 2, none⟩)) ∧ w = w' := by
  go_enter Try.func36, Try.ntmps36
  go_wp2
  go_ret
  exact ⟨rfl, rfl⟩
theorem fld1_q (b : Nat) (w : World) : Calls Try.prog 32 #[.pointer (some ⟨b, 0, none⟩)] w fun e w' => e = .returned (.pointer (some ⟨b, 1, none⟩)) ∧ w' = w := (fld1_any b w).mono fun _ _ h => ⟨h.1, h.2.symm⟩
theorem fld2_q (b : Nat) (w : World) : Calls Try.prog 36 #[.pointer (some ⟨b, 0, none⟩)] w fun e w' => e = .returned (.pointer (some ⟨b, 2, none⟩)) ∧ w' = w := (fld2_any b w).mono fun _ _ h => ⟨h.1, h.2.symm⟩
set_option maxRecDepth 100000 in
set_option maxHeartbeats 2000000 in
theorem put1_any (b n : Nat) (d lim : Int) (w : World) (h0 : 0 ≤ d) (hl : d ≤ lim) (hm : d ≤ 4611686018427387903) (hc : w.cell? ⟨b, 1, none⟩ = some (.int .i64 d)) (c1 : w.cell? ⟨n + 1, 0, none⟩ = some (fnv 32)) (c0 : w.cell? ⟨n, 0, none⟩ = some (.int .i64 lim)) :
    Calls Try.prog 50 #[.pointer (some ⟨b, 0, none⟩), .pointer (some ⟨n + 1, 0, none⟩), .pointer (some ⟨n, 0, none⟩)] w fun e w' => e = .returned (.string (strOfNums (encV d))) ∧ Below w.heap.size w w' := by
  unfold fnv at c1
  go_enter Try.func50, Try.ntmps50
  go_wp2
  go_still_tail 6, (by kernel_rfl)
  repeat (first | still_step | still_call (fld1_q _ _))
  refine wpStill_nil ?_
  go_wp2_with (go_at_call 51; refine (number_any d lim _ h0 hl hm).mono ?_; rintro e w' ⟨rfl, hb⟩)
  go_ret
  exact ⟨rfl, below_drew hb⟩
set_option maxRecDepth 100000 in
set_option maxHeartbeats 2000000 in
theorem put2_any (b n : Nat) (d lim : Int) (w : World) (h0 : 0 ≤ d) (hl : d ≤ lim) (hm : d ≤ 4611686018427387903) (hc : w.cell? ⟨b, 2, none⟩ = some (.int .i64 d)) (c1 : w.cell? ⟨n + 1, 0, none⟩ = some (fnv 36)) (c0 : w.cell? ⟨n, 0, none⟩ = some (.int .i64 lim)) :
    Calls Try.prog 50 #[.pointer (some ⟨b, 0, none⟩), .pointer (some ⟨n + 1, 0, none⟩), .pointer (some ⟨n, 0, none⟩)] w fun e w' => e = .returned (.string (strOfNums (encV d))) ∧ Below w.heap.size w w' := by
  unfold fnv at c1
  go_enter Try.func50, Try.ntmps50
  go_wp2
  go_still_tail 6, (by kernel_rfl)
  repeat (first | still_step | still_call (fld2_q _ _))
  refine wpStill_nil ?_
  go_wp2_with (go_at_call 51; refine (number_any d lim _ h0 hl hm).mono ?_; rintro e w' ⟨rfl, hb⟩)
  go_ret
  exact ⟨rfl, below_drew hb⟩
set_option maxRecDepth 100000 in
set_option maxHeartbeats 2000000 in
theorem clear1_any (b n : Nat) (cs : Array Value) (w : World) (hb : w.heap[b]? = some (.cells cs 33 (0, 0))) (hz : cs.size = 13) (c1 : w.cell? ⟨n + 1, 0, none⟩ = some (fnv 32)) :
    Calls Try.prog 54 #[.pointer (some ⟨b, 0, none⟩), .pointer (some ⟨n + 1, 0, none⟩)] w fun e w' => e = .returned (.tuple #[]) ∧ w' = w.setCell ⟨b, 1, none⟩ (.int .i64 0) := by
  unfold fnv at c1
  have c8 : w.cell? ⟨b, 1, none⟩ = some cs[1] := (cell_whole hb 1).trans (by simp [hz])
  have f8 := frozen_whole hb 1
  have HB := Lib.hid hb
  clear hb
  go_enter Try.func54, Try.ntmps54
  go_wp2_with (go_at_call 32; refine (fld1_any b _).mono ?_; rintro e w' ⟨rfl, rfl⟩)
  go_end0
  exact ⟨rfl, rfl⟩
set_option maxRecDepth 100000 in
set_option maxHeartbeats 2000000 in
theorem clear2_any (b n : Nat) (cs : Array Value) (w : World) (hb : w.heap[b]? = some (.cells cs 33 (0, 0))) (hz : cs.size = 13) (c1 : w.cell? ⟨n + 1, 0, none⟩ = some (fnv 36)) :
    Calls Try.prog 54 #[.pointer (some ⟨b, 0, none⟩), .pointer (some ⟨n + 1, 0, none⟩)] w fun e w' => e = .returned (.tuple #[]) ∧ w' = w.setCell ⟨b, 2, none⟩ (.int .i64 0) := by
  unfold fnv at c1
  have c8 : w.cell? ⟨b, 2, none⟩ = some cs[2] := (cell_whole hb 2).trans (by simp [hz])
  have f8 := frozen_whole hb 2
  have HB := Lib.hid hb
  clear hb
  go_enter Try.func54, Try.ntmps54
  go_wp2_with (go_at_call 36; refine (fld2_any b _).mono ?_; rintro e w' ⟨rfl, rfl⟩)
  go_end0
  exact ⟨rfl, rfl⟩
set_option maxRecDepth 100000 in
set_option maxHeartbeats 2000000 in
theorem clearS_any (b : Nat) (cs : Array Value) (w : World) (hb : w.heap[b]? = some (.cells cs 33 (0, 0))) (hz : cs.size = 13) :
    Calls Try.prog 58 #[.pointer (some ⟨b, 0, none⟩)] w fun e w' => e = .returned (.tuple #[]) ∧ w' = w.setCell ⟨b, 3, none⟩ (.string ⟨#[]⟩) := by
  have c8 : w.cell? ⟨b, 3, none⟩ = some cs[3] := (cell_whole hb 3).trans (by simp [hz])
  have f8 := frozen_whole hb 3
  have HB := Lib.hid hb
  clear hb
  go_enter Try.func58, Try.ntmps58
  go_wp2
  go_end0
  exact ⟨rfl, rfl⟩
set_option maxRecDepth 100000 in
set_option maxHeartbeats 2000000 in
/-- a text's part: its length and the text -/
theorem putS_any (b n : Nat) (off : Int) (s : ByteArray) (m : Int) (w : World) (h0 : 0 ≤ off) (h1 : off + (s.size : Int) ≤ 1099511627776) (hm : (s.size : Int) ≤ m) (hc2 : w.cell? ⟨b, 2, none⟩ = some (.int .i64 off)) (hc3 : w.cell? ⟨b, 3, none⟩ = some (.string s))
    (c0 : w.cell? ⟨n, 0, none⟩ = some (.int .i64 0)) (c1 : w.cell? ⟨n + 1, 0, none⟩ = some (.int .i64 m)) :
    Calls Try.prog 55 #[.pointer (some ⟨b, 0, none⟩), .pointer (some ⟨n, 0, none⟩), .pointer (some ⟨n + 1, 0, none⟩)] w fun e w' => e = .returned (.string (strOfNums (encV s.size) ++ s)) ∧ Below w.heap.size w w' := by
  have g0 : decide ((s.size : Int) < 0) = false := decide_eq_false (by omega)
  have g1 : decide (off + (s.size : Int) > 1099511627776) = false := decide_eq_false (by omega)
  have g2 : (1099511627776 < off + (s.size : Int)) = False := eq_false (by omega)
  have w1 : IntKind.i64.wrap (off + (s.size : Int)) = off + (s.size : Int) := IntWalk.i64_in _ (by omega)
  have hl : (encV s.size).length ≤ 8 := encV_len _
  have z1 : (9223372036854775807 < (strOfNums (encV s.size)).size + s.size) = False := eq_false (by rw [strOf_size]; omega)
  have NA := Lib.hid (fun wx => number_any (s.size : Int) m wx (by omega) hm (by omega))
  clear hl
  generalize strOfNums (encV s.size) = t at *
  go_enter Try.func55, Try.ntmps55
  go_wp2
  go_quiet (fail)
  go_wp2_with fail
  have l3 := World.block_lt_of_cell? _ _ hc3
  have l1 := World.block_lt_of_cell? _ _ c1
  have HS := Lib.hid (show ∀ w', Held w w.heap.size w' → (w'.cell? ⟨b, 3, none⟩ = some (.string s) ∧ w'.cell? ⟨n + 1, 0, none⟩ = some (.int .i64 m)) from fun w' h => ⟨h.cell hc3 (Nat.ne_of_lt l3), h.cell c1 (Nat.ne_of_lt l1)⟩)
  clear l3 l1
  go_region_held3 (fun w' => w'.cell? ⟨b, 3, none⟩ = some (.string s) ∧ w'.cell? ⟨n + 1, 0, none⟩ = some (.int .i64 m)) (first | exact HS.out _ (((Held.refl w _).drewN _).drew) | exact HS.out _ ((((Held.refl w _).drewN _).drew).below hb2)) (first | (go_at_call 51; refine (NA.out _).mono ?_; rintro e w2 ⟨rfl, hb2⟩))
  go_wp2
  go_ret
  exact ⟨rfl, ⟨hb2.os, hb2.tape, hb2.output, hb2.size, hb2.block⟩⟩
end Go.Proofs.Ytpfkeohaaeiaaaa.frm
/- STREAM frames: encode. Printed by gen/mkFSb.py. -/
namespace Go.Proofs.Ytpfkeohaaeiaaaa.frm
open Go.RowKit Go.Maps
theorem parts_str (w : World) : Calls Try.prog 25 #[] w fun e w' => ∃ M g n1 n5 n8, e = .returned (.map (some M)) ∧ Below w.heap.size w w' ∧ w'.heap[g]? = some (.cells (intP n1 ++ (intP n5 ++ txtP n8)) 63 (0, 0)) ∧
    (w'.heap[n1]? = some (i64B 4611686018427387903) ∧ w'.heap[n1 + 1]? = some (fnB 75 32) ∧ w'.heap[n5]? = some (i64B 1099511627776) ∧ w'.heap[n5 + 1]? = some (fnB 75 36) ∧ w'.heap[n8]? = some (i64B 0) ∧ w'.heap[n8 + 1]? = some (i64B 1024)) ∧
    (Instr.lookup 57 (.map (some M)) (.int .i64 8) true).run Try.prog w' = .ok (.tuple #[.slice (some ⟨g, 0, none⟩) 3 3, .bool true]) w' ∧
    (Instr.lookup 57 (.map (some M)) (.int .i64 8) false).run Try.prog w' = .ok (.slice (some ⟨g, 0, none⟩) 3 3) w' := by
  refine (parts_all w).mono ?_
  rintro e w' ⟨M, bx, L, n1, n5, n7, n8, rfl, hM, hL, hb, h1, h5, h7, h8, h12, h⟩
  obtain ⟨g, hg, l1, l2⟩ := str_row hM hL
  rw [h1, h5, h8] at hg
  exact ⟨M, g, n1, n5, n8, rfl, hb, hg, ⟨h.1, h.2.1, h.2.2.1, h.2.2.2.1, h.2.2.2.2.1, h.2.2.2.2.2.1⟩, l1, l2⟩
/-- string([]byte{k}) -/
theorem convK (k : Int) (_hk : 0 ≤ k ∧ k ≤ 255) (b : Nat) (w : World) (h : w.heap[b]? = some (.cells #[.int .u8 k] 5 (0, 0))) : (convert 43 9 (.slice (some ⟨b, 0, none⟩) 1 1)).run Try.prog w = .ok (.string (strOfNums [k])) w :=
  run_convert_bytes_arg (P := Try.prog) w 43 5 Try.underlying43 Try.underlying5 b 0 1 1 [k] rfl (fun i hi => by
    have e : i = 0 := by omega
    subst e
    exact at_whole h 0 rfl) 9 Try.underlying9
/-- behind w1: a block of a frame's own, made first; nothing that lay in w1 has turned -/
structure Eb (w1 : World) (cs : Array Value) (W : World) : Prop where
  new : W.heap[w1.heap.size]? = some (.cells cs 33 (0, 0))
  bel : Below w1.heap.size w1 W
theorem Eb.below {w1 W W' : World} {cs : Array Value} (h : Eb w1 cs W) (hb : Below W.heap.size W W') : Eb w1 cs W' := ⟨heap_below hb h.new, h.bel.trans (hb.mono h.bel.size)⟩
theorem Eb.alloc {w1 W : World} {cs : Array Value} (h : Eb w1 cs W) (o : Obj) : Eb w1 cs (W.alloc o) := h.below ((Below.refl _ _).alloc (Nat.le_refl _) _)
theorem Eb.set {w1 W : World} {cs : Array Value} (h : Eb w1 cs W) (i : Nat) (v : Value) : Eb w1 (cs.setIfInBounds i v) (W.setCell ⟨w1.heap.size, i, none⟩ v) := ⟨heap_set v h.new, h.bel.setCell (p := ⟨w1.heap.size, i, none⟩) (Nat.le_refl _) _⟩
theorem Eb.old {w1 W : World} {cs : Array Value} (h : Eb w1 cs W) {k : Nat} {o : Obj} (hk : w1.heap[k]? = some o) : W.heap[k]? = some o := heap_below h.bel hk
theorem size33 : (Try.prog.info? 33).map (·.size) = some 13 := by kernel_rfl
/-- a STREAM frame's cells -/
def strE (sid off : Int) (s : ByteArray) (fin : Bool) : Array Value := #[.int .i64 8, .int .i64 sid, .int .i64 off, .string s, .bool fin, .int .i64 0, .int .i64 0, .bool false, .int .i64 0, .slice none 0 0, .int .i64 0, .int .i64 0, .string ⟨#[]⟩]
/-- its encoding -/
def sfS (sid off : Int) (s : ByteArray) (fin : Bool) : ByteArray := ((strOfNums [if fin then 9 else 8] ++ strOfNums (encV sid)) ++ strOfNums (encV off)) ++ (strOfNums (encV s.size) ++ s)
set_option maxRecDepth 100000 in
set_option maxHeartbeats 4000000 in
theorem same_str (w : World) : Calls Try.prog 30 #[.agg (strE 0 0 ⟨#[]⟩ false), .agg (strE 0 0 ⟨#[]⟩ false)] w fun e w' => e = .returned (.bool true) ∧ Below w.heap.size w w' := by
  unfold strE
  have c := box2 w (.cells #[.int .i64 8, .int .i64 0, .int .i64 0, .string ⟨#[]⟩, .bool false, .int .i64 0, .int .i64 0, .bool false, .int .i64 0, .slice none 0 0, .int .i64 0, .int .i64 0, .string ⟨#[]⟩] 33) (.cells #[.int .i64 8, .int .i64 0, .int .i64 0, .string ⟨#[]⟩, .bool false, .int .i64 0, .int .i64 0, .bool false, .int .i64 0, .slice none 0 0, .int .i64 0, .int .i64 0, .string ⟨#[]⟩] 33)
  have C := Lib.hid c
  clear c
  go_enter Try.func30, Try.ntmps30
  go_wp2_with (go_at_call 49; refine (equal_nil _).mono ?_; rintro e w' ⟨rfl, rfl⟩)
  go_ret
  exact ⟨rfl, C.out.2.2.1⟩
theorem cV_len (n : Int) : (strOfNums (encV n)).size ≤ 8 := by rw [strOf_size]; exact encV_len n
set_option maxRecDepth 100000 in
set_option maxHeartbeats 8000000 in
theorem encode_strFalse (sid off : Int) (s : ByteArray) (w : World) (h0 : 0 ≤ sid) (h1 : sid ≤ 4611686018427387903) (h2 : 0 ≤ off) (h3 : off + (s.size : Int) ≤ 1099511627776) (h4 : s.size ≤ 1024) :
    Calls Try.prog 23 #[.agg (strE sid off s false)] w fun e w' => e = .returned (.string (sfS sid off s false)) ∧ Below w.heap.size w w' := by
  have X := Lib.hid (box1 w (.cells (strE sid off s false) 33))
  have XC := Lib.hid (fun (W : World) (h : W.heap[w.heap.size]? = some (.cells (strE sid off s false) 33 (0, 0))) => (show W.cell? ⟨w.heap.size, 0, none⟩ = some (.int .i64 8) ∧ W.cell? ⟨w.heap.size, 4, none⟩ = some (.bool false) from ⟨at_whole h 0 rfl, at_whole h 4 rfl⟩))
  have x0 := XC.out _ X.out.1
  obtain ⟨x0, x4⟩ := x0
  obtain ⟨S, hS⟩ : ∃ S, sfS sid off s false = S := ⟨_, rfl⟩
  rw [hS]
  have HS : Hid (((strOfNums [8] ++ strOfNums (encV sid)) ++ strOfNums (encV off)) ++ (strOfNums (encV s.size) ++ s) = S) := Lib.hid hS
  clear hS
  unfold strE at *
  go_enter Try.func23, Try.ntmps23
  go_wp2
  generalize hV : w.alloc _ = V at X x0 x4 ⊢
  clear hV
  go_region_with ((go_at_call 25; refine (parts_str _).mono ?_; rintro e w1 ⟨M, g, n1, n5, n8, rfl, hb, hg, hn, hlook, -⟩; have hx := Lib.hid (heap_below (below_drew hb) X.out.1); have y0 := (XC.out _ hx.out).1; have y4 := (XC.out _ hx.out).2; have HG := Lib.hid hn; have G1 := Lib.hid hg; have HB := Lib.hid (btrans X.out.2.1 (below_drew hb)); clear hb hg hn))
  all_goals
    go_wp2_with (first | (refine wpList_load_row rfl 33 _ rfl w.heap.size rfl 33 _ (0, 0) _ hx.out Try.underlying33 rfl size33 ?_) | (refine wpList_store_row rfl 33 _ _ rfl w1.heap.size _ rfl rfl 33 _ (heap_alloc_new _ _) size33 rfl rfl ?_; rw [World.setRow_alloc_new]))
    have F2 := Lib.hid (box2 w1 (.cells #[.int .i64 8, .int .i64 sid, .int .i64 off, .string s, .bool false, .int .i64 0, .int .i64 0, .bool false, .int .i64 0, .slice none 0 0, .int .i64 0, .int .i64 0, .string ⟨#[]⟩] 33) (.cells #[.int .u8 8] 5))
    generalize (w1.alloc _).alloc _ = W2 at F2 ⊢
    rw [convK 8 (by decide) _ _ F2.out.2.1]
    simp only [Result.andThen]
    rw [Oper.upon_value]
    have E2 := Lib.hid (Eb.mk F2.out.1 F2.out.2.2.1)
    have hz : (strOfNums [8]).size = 1 := by decide
    generalize strOfNums [8] = s0 at *
    clear F2 x0 x4 y0 y4 hlook XC
    go_wp2
    refine wp_loop_rounds 4 ?_
    rw [rounds_succ]
    have pa0 := at_whole (E2.out.old G1.out) 0 rfl
    have pb0 := at_whole (E2.out.old G1.out) 1 rfl
    have pc0 := at_whole (E2.out.old G1.out) 2 rfl
    simp only [intP, txtP, fnv] at pa0 pb0 pc0
    go_wp2_with fail
    have EA0 := Lib.hid (E2.out.alloc (.cells (intP n1) 63))
    have PA0 := Lib.hid (heap_alloc_new W2 (.cells (intP n1) 63))
    simp only [intP] at EA0 PA0
    generalize W2.alloc _ = WA0 at EA0 PA0 ⊢
    refine (put1_any w.heap.size n1 sid 4611686018427387903 _ h0 h1 h1 (at_whole (EA0.out.old hx.out) 1 rfl) (at_whole (EA0.out.old HG.out.2.1) 0 rfl) (at_whole (EA0.out.old HG.out.1) 0 rfl)).mono ?_
    rintro e WB0 ⟨rfl, hb0⟩
    have EB0 := Lib.hid (EA0.out.below hb0)
    have rc0 := at_whole (heap_below hb0 PA0.out) 2 rfl
    have hs0 := cV_len sid
    generalize strOfNums (encV sid) = st0 at *
    have zz0 : (9223372036854775807 < s0.size + st0.size) = False := eq_false (by omega)
    simp only [List.getElem_toArray, List.getElem_cons_zero, List.getElem_cons_succ] at rc0
    clear E2 EA0 hb0 pa0 pb0 pc0 PA0
    go_wp2_with fail
    refine (clear1_any w1.heap.size n1 _ _ EB0.out.new rfl (at_whole (EB0.out.old HG.out.2.1) 0 rfl)).mono ?_
    rintro e WC0 ⟨rfl, rfl⟩
    have EC0 := Lib.hid (EB0.out.set 1 (.int .i64 0))
    simp only [List.setIfInBounds_toArray, List.set_cons_zero, List.set_cons_succ] at EC0
    generalize WB0.setCell _ _ = WD0 at EC0 ⊢
    have hu0 : (s0 ++ st0).size ≤ 9 := by rw [ByteArray.size_append]; omega
    generalize s0 ++ st0 = ss0 at *
    clear EB0 rc0 zz0 hz hs0
    go_wp2
    rw [rounds_succ]
    have pa1 := at_whole (EC0.out.old G1.out) 3 rfl
    have pb1 := at_whole (EC0.out.old G1.out) 4 rfl
    have pc1 := at_whole (EC0.out.old G1.out) 5 rfl
    simp only [intP, txtP, fnv] at pa1 pb1 pc1
    go_wp2_with fail
    have EA1 := Lib.hid (EC0.out.alloc (.cells (intP n5) 63))
    have PA1 := Lib.hid (heap_alloc_new WD0 (.cells (intP n5) 63))
    simp only [intP] at EA1 PA1
    generalize WD0.alloc _ = WA1 at EA1 PA1 ⊢
    refine (put2_any w.heap.size n5 off 1099511627776 _ h2 (by omega) (by omega) (at_whole (EA1.out.old hx.out) 2 rfl) (at_whole (EA1.out.old HG.out.2.2.2.1) 0 rfl) (at_whole (EA1.out.old HG.out.2.2.1) 0 rfl)).mono ?_
    rintro e WB1 ⟨rfl, hb1⟩
    have EB1 := Lib.hid (EA1.out.below hb1)
    have rc1 := at_whole (heap_below hb1 PA1.out) 2 rfl
    have hs1 := cV_len off
    generalize strOfNums (encV off) = st1 at *
    have zz1 : (9223372036854775807 < ss0.size + st1.size) = False := eq_false (by omega)
    simp only [List.getElem_toArray, List.getElem_cons_zero, List.getElem_cons_succ] at rc1
    clear EC0 EA1 hb1 pa1 pb1 pc1 PA1
    go_wp2_with fail
    refine (clear2_any w1.heap.size n5 _ _ EB1.out.new rfl (at_whole (EB1.out.old HG.out.2.2.2.1) 0 rfl)).mono ?_
    rintro e WC1 ⟨rfl, rfl⟩
    have EC1 := Lib.hid (EB1.out.set 2 (.int .i64 0))
    simp only [List.setIfInBounds_toArray, List.set_cons_zero, List.set_cons_succ] at EC1
    generalize WB1.setCell _ _ = WD1 at EC1 ⊢
    have hu1 : (ss0 ++ st1).size ≤ 17 := by rw [ByteArray.size_append]; omega
    generalize ss0 ++ st1 = ss1 at *
    clear EB1 rc1 zz1 hu0 hs1
    go_wp2
    rw [rounds_succ]
    have pa2 := at_whole (EC1.out.old G1.out) 6 rfl
    have pb2 := at_whole (EC1.out.old G1.out) 7 rfl
    have pc2 := at_whole (EC1.out.old G1.out) 8 rfl
    simp only [intP, txtP, fnv] at pa2 pb2 pc2
    go_wp2_with fail
    have EA2 := Lib.hid (EC1.out.alloc (.cells (txtP n8) 63))
    have PA2 := Lib.hid (heap_alloc_new WD1 (.cells (txtP n8) 63))
    simp only [txtP, fnv] at EA2 PA2
    generalize WD1.alloc _ = WA2 at EA2 PA2 ⊢
    refine (putS_any w.heap.size n8 off s 1024 _ h2 h3 (by omega) (at_whole (EA2.out.old hx.out) 2 rfl) (at_whole (EA2.out.old hx.out) 3 rfl) (at_whole (EA2.out.old HG.out.2.2.2.2.1) 0 rfl) (at_whole (EA2.out.old HG.out.2.2.2.2.2) 0 rfl)).mono ?_
    rintro e WB2 ⟨rfl, hb2⟩
    have EB2 := Lib.hid (EA2.out.below hb2)
    have rc2 := at_whole (heap_below hb2 PA2.out) 2 rfl
    have hs2 := (show (strOfNums (encV s.size) ++ s).size ≤ 1032 by rw [ByteArray.size_append]; have := cV_len s.size; omega)
    generalize (strOfNums (encV s.size) ++ s) = st2 at *
    have zz2 : (9223372036854775807 < ss1.size + st2.size) = False := eq_false (by omega)
    simp only [List.getElem_toArray, List.getElem_cons_zero, List.getElem_cons_succ] at rc2
    clear EC1 EA2 hb2 pa2 pb2 pc2 PA2
    go_wp2_with fail
    refine (clearS_any w1.heap.size _ _ EB2.out.new rfl).mono ?_
    rintro e WC2 ⟨rfl, rfl⟩
    have EC2 := Lib.hid (EB2.out.set 3 (.string ⟨#[]⟩))
    simp only [List.setIfInBounds_toArray, List.set_cons_zero, List.set_cons_succ] at EC2
    generalize WB2.setCell _ _ = WD2 at EC2 ⊢
    have hu2 : (ss1 ++ st2).size ≤ 1049 := by rw [ByteArray.size_append]; omega
    generalize ss1 ++ st2 = ss2 at *
    clear EB2 rc2 zz2 hu1 hs2
    go_wp2
    rw [rounds_succ]
    have x0 := at_whole (EC2.out.old hx.out) 0 rfl
    simp only [List.getElem_toArray, List.getElem_cons_zero] at x0
    go_wp2_with (first | (refine wpList_load_row rfl 33 _ rfl w1.heap.size rfl 33 _ (0, 0) _ EC2.out.new Try.underlying33 rfl size33 ?_) | (go_at_call 30; refine (same_str _).mono ?_; rintro e W9 ⟨rfl, hb9⟩))
    go_ret
    exact ⟨by rw [HS.out]; rfl, HB.out.trans ((EC2.out.below hb9).bel.mono HB.out.size)⟩
set_option maxRecDepth 100000 in
set_option maxHeartbeats 8000000 in
theorem encode_strTrue (sid off : Int) (s : ByteArray) (w : World) (h0 : 0 ≤ sid) (h1 : sid ≤ 4611686018427387903) (h2 : 0 ≤ off) (h3 : off + (s.size : Int) ≤ 1099511627776) (h4 : s.size ≤ 1024) :
    Calls Try.prog 23 #[.agg (strE sid off s true)] w fun e w' => e = .returned (.string (sfS sid off s true)) ∧ Below w.heap.size w w' := by
  have X := Lib.hid (box1 w (.cells (strE sid off s true) 33))
  have XC := Lib.hid (fun (W : World) (h : W.heap[w.heap.size]? = some (.cells (strE sid off s true) 33 (0, 0))) => (show W.cell? ⟨w.heap.size, 0, none⟩ = some (.int .i64 8) ∧ W.cell? ⟨w.heap.size, 4, none⟩ = some (.bool true) from ⟨at_whole h 0 rfl, at_whole h 4 rfl⟩))
  have x0 := XC.out _ X.out.1
  obtain ⟨x0, x4⟩ := x0
  obtain ⟨S, hS⟩ : ∃ S, sfS sid off s true = S := ⟨_, rfl⟩
  rw [hS]
  have HS : Hid (((strOfNums [9] ++ strOfNums (encV sid)) ++ strOfNums (encV off)) ++ (strOfNums (encV s.size) ++ s) = S) := Lib.hid hS
  clear hS
  unfold strE at *
  go_enter Try.func23, Try.ntmps23
  go_wp2
  generalize hV : w.alloc _ = V at X x0 x4 ⊢
  clear hV
  go_region_with ((go_at_call 25; refine (parts_str _).mono ?_; rintro e w1 ⟨M, g, n1, n5, n8, rfl, hb, hg, hn, hlook, -⟩; have hx := Lib.hid (heap_below (below_drew hb) X.out.1); have y0 := (XC.out _ hx.out).1; have y4 := (XC.out _ hx.out).2; have HG := Lib.hid hn; have G1 := Lib.hid hg; have HB := Lib.hid (btrans X.out.2.1 (below_drew hb)); clear hb hg hn))
  all_goals
    go_wp2_with (first | (refine wpList_load_row rfl 33 _ rfl w.heap.size rfl 33 _ (0, 0) _ hx.out Try.underlying33 rfl size33 ?_) | (refine wpList_store_row rfl 33 _ _ rfl w1.heap.size _ rfl rfl 33 _ (heap_alloc_new _ _) size33 rfl rfl ?_; rw [World.setRow_alloc_new]))
    have F2 := Lib.hid (box2 w1 (.cells #[.int .i64 8, .int .i64 sid, .int .i64 off, .string s, .bool false, .int .i64 0, .int .i64 0, .bool false, .int .i64 0, .slice none 0 0, .int .i64 0, .int .i64 0, .string ⟨#[]⟩] 33) (.cells #[.int .u8 9] 5))
    generalize (w1.alloc _).alloc _ = W2 at F2 ⊢
    rw [convK 9 (by decide) _ _ F2.out.2.1]
    simp only [Result.andThen]
    rw [Oper.upon_value]
    have E2 := Lib.hid (Eb.mk F2.out.1 F2.out.2.2.1)
    have hz : (strOfNums [9]).size = 1 := by decide
    generalize strOfNums [9] = s0 at *
    clear F2 x0 x4 y0 y4 hlook XC
    go_wp2
    refine wp_loop_rounds 4 ?_
    rw [rounds_succ]
    have pa0 := at_whole (E2.out.old G1.out) 0 rfl
    have pb0 := at_whole (E2.out.old G1.out) 1 rfl
    have pc0 := at_whole (E2.out.old G1.out) 2 rfl
    simp only [intP, txtP, fnv] at pa0 pb0 pc0
    go_wp2_with fail
    have EA0 := Lib.hid (E2.out.alloc (.cells (intP n1) 63))
    have PA0 := Lib.hid (heap_alloc_new W2 (.cells (intP n1) 63))
    simp only [intP] at EA0 PA0
    generalize W2.alloc _ = WA0 at EA0 PA0 ⊢
    refine (put1_any w.heap.size n1 sid 4611686018427387903 _ h0 h1 h1 (at_whole (EA0.out.old hx.out) 1 rfl) (at_whole (EA0.out.old HG.out.2.1) 0 rfl) (at_whole (EA0.out.old HG.out.1) 0 rfl)).mono ?_
    rintro e WB0 ⟨rfl, hb0⟩
    have EB0 := Lib.hid (EA0.out.below hb0)
    have rc0 := at_whole (heap_below hb0 PA0.out) 2 rfl
    have hs0 := cV_len sid
    generalize strOfNums (encV sid) = st0 at *
    have zz0 : (9223372036854775807 < s0.size + st0.size) = False := eq_false (by omega)
    simp only [List.getElem_toArray, List.getElem_cons_zero, List.getElem_cons_succ] at rc0
    clear E2 EA0 hb0 pa0 pb0 pc0 PA0
    go_wp2_with fail
    refine (clear1_any w1.heap.size n1 _ _ EB0.out.new rfl (at_whole (EB0.out.old HG.out.2.1) 0 rfl)).mono ?_
    rintro e WC0 ⟨rfl, rfl⟩
    have EC0 := Lib.hid (EB0.out.set 1 (.int .i64 0))
    simp only [List.setIfInBounds_toArray, List.set_cons_zero, List.set_cons_succ] at EC0
    generalize WB0.setCell _ _ = WD0 at EC0 ⊢
    have hu0 : (s0 ++ st0).size ≤ 9 := by rw [ByteArray.size_append]; omega
    generalize s0 ++ st0 = ss0 at *
    clear EB0 rc0 zz0 hz hs0
    go_wp2
    rw [rounds_succ]
    have pa1 := at_whole (EC0.out.old G1.out) 3 rfl
    have pb1 := at_whole (EC0.out.old G1.out) 4 rfl
    have pc1 := at_whole (EC0.out.old G1.out) 5 rfl
    simp only [intP, txtP, fnv] at pa1 pb1 pc1
    go_wp2_with fail
    have EA1 := Lib.hid (EC0.out.alloc (.cells (intP n5) 63))
    have PA1 := Lib.hid (heap_alloc_new WD0 (.cells (intP n5) 63))
    simp only [intP] at EA1 PA1
    generalize WD0.alloc _ = WA1 at EA1 PA1 ⊢
    refine (put2_any w.heap.size n5 off 1099511627776 _ h2 (by omega) (by omega) (at_whole (EA1.out.old hx.out) 2 rfl) (at_whole (EA1.out.old HG.out.2.2.2.1) 0 rfl) (at_whole (EA1.out.old HG.out.2.2.1) 0 rfl)).mono ?_
    rintro e WB1 ⟨rfl, hb1⟩
    have EB1 := Lib.hid (EA1.out.below hb1)
    have rc1 := at_whole (heap_below hb1 PA1.out) 2 rfl
    have hs1 := cV_len off
    generalize strOfNums (encV off) = st1 at *
    have zz1 : (9223372036854775807 < ss0.size + st1.size) = False := eq_false (by omega)
    simp only [List.getElem_toArray, List.getElem_cons_zero, List.getElem_cons_succ] at rc1
    clear EC0 EA1 hb1 pa1 pb1 pc1 PA1
    go_wp2_with fail
    refine (clear2_any w1.heap.size n5 _ _ EB1.out.new rfl (at_whole (EB1.out.old HG.out.2.2.2.1) 0 rfl)).mono ?_
    rintro e WC1 ⟨rfl, rfl⟩
    have EC1 := Lib.hid (EB1.out.set 2 (.int .i64 0))
    simp only [List.setIfInBounds_toArray, List.set_cons_zero, List.set_cons_succ] at EC1
    generalize WB1.setCell _ _ = WD1 at EC1 ⊢
    have hu1 : (ss0 ++ st1).size ≤ 17 := by rw [ByteArray.size_append]; omega
    generalize ss0 ++ st1 = ss1 at *
    clear EB1 rc1 zz1 hu0 hs1
    go_wp2
    rw [rounds_succ]
    have pa2 := at_whole (EC1.out.old G1.out) 6 rfl
    have pb2 := at_whole (EC1.out.old G1.out) 7 rfl
    have pc2 := at_whole (EC1.out.old G1.out) 8 rfl
    simp only [intP, txtP, fnv] at pa2 pb2 pc2
    go_wp2_with fail
    have EA2 := Lib.hid (EC1.out.alloc (.cells (txtP n8) 63))
    have PA2 := Lib.hid (heap_alloc_new WD1 (.cells (txtP n8) 63))
    simp only [txtP, fnv] at EA2 PA2
    generalize WD1.alloc _ = WA2 at EA2 PA2 ⊢
    refine (putS_any w.heap.size n8 off s 1024 _ h2 h3 (by omega) (at_whole (EA2.out.old hx.out) 2 rfl) (at_whole (EA2.out.old hx.out) 3 rfl) (at_whole (EA2.out.old HG.out.2.2.2.2.1) 0 rfl) (at_whole (EA2.out.old HG.out.2.2.2.2.2) 0 rfl)).mono ?_
    rintro e WB2 ⟨rfl, hb2⟩
    have EB2 := Lib.hid (EA2.out.below hb2)
    have rc2 := at_whole (heap_below hb2 PA2.out) 2 rfl
    have hs2 := (show (strOfNums (encV s.size) ++ s).size ≤ 1032 by rw [ByteArray.size_append]; have := cV_len s.size; omega)
    generalize (strOfNums (encV s.size) ++ s) = st2 at *
    have zz2 : (9223372036854775807 < ss1.size + st2.size) = False := eq_false (by omega)
    simp only [List.getElem_toArray, List.getElem_cons_zero, List.getElem_cons_succ] at rc2
    clear EC1 EA2 hb2 pa2 pb2 pc2 PA2
    go_wp2_with fail
    refine (clearS_any w1.heap.size _ _ EB2.out.new rfl).mono ?_
    rintro e WC2 ⟨rfl, rfl⟩
    have EC2 := Lib.hid (EB2.out.set 3 (.string ⟨#[]⟩))
    simp only [List.setIfInBounds_toArray, List.set_cons_zero, List.set_cons_succ] at EC2
    generalize WB2.setCell _ _ = WD2 at EC2 ⊢
    have hu2 : (ss1 ++ st2).size ≤ 1049 := by rw [ByteArray.size_append]; omega
    generalize ss1 ++ st2 = ss2 at *
    clear EB2 rc2 zz2 hu1 hs2
    go_wp2
    rw [rounds_succ]
    have x0 := at_whole (EC2.out.old hx.out) 0 rfl
    simp only [List.getElem_toArray, List.getElem_cons_zero] at x0
    go_wp2_with (first | (refine wpList_load_row rfl 33 _ rfl w1.heap.size rfl 33 _ (0, 0) _ EC2.out.new Try.underlying33 rfl size33 ?_) | (go_at_call 30; refine (same_str _).mono ?_; rintro e W9 ⟨rfl, hb9⟩))
    go_ret
    exact ⟨by rw [HS.out]; rfl, HB.out.trans ((EC2.out.below hb9).bel.mono HB.out.size)⟩
theorem encode_str (sid off : Int) (s : ByteArray) (fin : Bool) (w : World) (h0 : 0 ≤ sid) (h1 : sid ≤ 4611686018427387903) (h2 : 0 ≤ off) (h3 : off + (s.size : Int) ≤ 1099511627776) (h4 : s.size ≤ 1024) :
    Calls Try.prog 23 #[.agg (strE sid off s fin)] w fun e w' => e = .returned (.string (sfS sid off s fin)) ∧ Below w.heap.size w w' := by
  cases fin
  · exact encode_strFalse sid off s w h0 h1 h2 h3 h4
  · exact encode_strTrue sid off s w h0 h1 h2 h3 h4
end Go.Proofs.Ytpfkeohaaeiaaaa.frm
/- Law 13: Valid at an ACK frame. -/
namespace Go.Proofs.Ytpfkeohaaeiaaaa.frm
open Go.RowKit
theorem catch_idle (w : World) :
    CallsD Try.prog 29 #[] .returning w fun e u' w' => e = .returned (.tuple #[]) ∧ u' = .returning ∧ w' = w := by
  refine callsD_of_wpS Try.func29 rfl fun c₀ cs hu => ?_
  apply wpS_seq
  apply wpS_region
  simp [wpOpsS, go_sem, recoverD, hu, Try.ntmps29, Exit.thenS]
  apply wpS_seq
  apply wpS_region
  simp [wpOpsS, go_sem, Exit.thenS]
  refine wpS_cond (t := false) (by simp [Act.eval, Array.replicate]) ?_
  simp only [Bool.false_eq_true, if_false]
  refine wpS_of_wp (wp_skip ?_)
  cases c₀
  simp_all [bodyPostS, results, Try.results29]
end Go.Proofs.Ytpfkeohaaeiaaaa.frm
/- STREAM frames: Encode. -/
namespace Go.Proofs.Ytpfkeohaaeiaaaa.frm
open Go.RowKit
set_option maxRecDepth 100000 in
set_option maxHeartbeats 2000000 in
theorem guard22 (b c : Nat) (w : World) (P : World → Prop) (hc : Calls Try.prog 22 #[.pointer (some ⟨b, 0, none⟩), .pointer (some ⟨c, 0, none⟩)] w fun e w' => e = .returned (.tuple #[]) ∧ P w') :
    Calls Try.prog 21 #[.func (.func 22) #[] #[.pointer (some ⟨b, 0, none⟩), .pointer (some ⟨c, 0, none⟩)]] w fun e w' => e = .returned (.bool true) ∧ P w' := by
  have E := Lib.hid hc
  clear hc
  go_enter_defers Try.func21, Try.ntmps21
  go_wp2_with (go_at_call 22; refine E.out.mono ?_; rintro e w' ⟨rfl, hb⟩)
  refine leaves_cons (f := 29) (args := #[]) (by simp) (by simp [go_sem]) ?_
  refine (catch_idle _).mono ?_
  rintro e u' w'' ⟨rfl, rfl, rfl⟩
  exact ⟨_, results_tmp rfl _ _ _, rfl, hb⟩
set_option maxRecDepth 100000 in
set_option maxHeartbeats 2000000 in
theorem guard24 (b c : Nat) (w : World) (P : World → Prop) (hc : Calls Try.prog 24 #[.pointer (some ⟨b, 0, none⟩), .pointer (some ⟨c, 0, none⟩)] w fun e w' => e = .returned (.tuple #[]) ∧ P w') :
    Calls Try.prog 21 #[.func (.func 24) #[] #[.pointer (some ⟨b, 0, none⟩), .pointer (some ⟨c, 0, none⟩)]] w fun e w' => e = .returned (.bool true) ∧ P w' := by
  have E := Lib.hid hc
  clear hc
  go_enter_defers Try.func21, Try.ntmps21
  go_wp2_with (go_at_call 24; refine E.out.mono ?_; rintro e w' ⟨rfl, hb⟩)
  refine leaves_cons (f := 29) (args := #[]) (by simp) (by simp [go_sem]) ?_
  refine (catch_idle _).mono ?_
  rintro e u' w'' ⟨rfl, rfl, rfl⟩
  exact ⟨_, results_tmp rfl _ _ _, rfl, hb⟩
/-- what a STREAM frame must be for Encode -/
structure SfOk (sid off : Int) (s : ByteArray) : Prop where
  a : 0 ≤ sid
  b : sid ≤ 4611686018427387903
  c : 0 ≤ off
  d : off + (s.size : Int) ≤ 1099511627776
  e : s.size ≤ 1024
set_option maxRecDepth 100000 in
set_option maxHeartbeats 2000000 in
theorem encl_any (b c : Nat) (sid off : Int) (s : ByteArray) (fin : Bool) (w : World) (hk : SfOk sid off s) (hb : w.heap[b]? = some (.cells (strE sid off s fin) 33 (0, 0))) (hc : w.heap[c]? = some (.cells #[.string ⟨#[]⟩] 9 (0, 0))) :
    Calls Try.prog 22 #[.pointer (some ⟨b, 0, none⟩), .pointer (some ⟨c, 0, none⟩)] w fun e w' => e = .returned (.tuple #[]) ∧ ∃ w1, Below w.heap.size w w1 ∧ w' = w1.setCell ⟨c, 0, none⟩ (.string (sfS sid off s fin)) := by
  have E := Lib.hid (encode_str sid off s fin w hk.a hk.b hk.c hk.d hk.e)
  have HB := Lib.hid hb
  have HC := Lib.hid hc
  clear hk hb hc
  generalize sfS sid off s fin = S at *
  unfold strE at *
  go_enter Try.func22, Try.ntmps22
  go_wp2_with (first | (refine wpList_load_row rfl 33 _ rfl b rfl 33 _ (0, 0) _ HB.out Try.underlying33 rfl size33 ?_) | (go_at_call 23; refine E.out.mono ?_; rintro e w1 ⟨rfl, hb⟩; have k0 := at_whole (heap_below hb HC.out) 0 rfl; have f0 := frozen_whole (heap_below hb HC.out) 0))
  go_end0
  exact ⟨rfl, w1, hb, rfl⟩
set_option maxRecDepth 100000 in
set_option maxHeartbeats 4000000 in
theorem Encode_any (sid off : Int) (s : ByteArray) (fin : Bool) (w : World) (hk : SfOk sid off s) :
    Calls Try.prog 11 #[.agg (strE sid off s fin)] w fun e w' => e = .returned (.tuple #[.string (sfS sid off s fin), .int .i64 0]) ∧ Below w.heap.size w w' := by
  have X := Lib.hid (box2 w (.cells (strE sid off s fin) 33) (.cells #[.string ⟨#[]⟩] 9))
  have E := Lib.hid (guard22 w.heap.size (w.heap.size + 1) _ _ (encl_any w.heap.size (w.heap.size + 1) sid off s fin _ hk X.out.1 X.out.2.1))
  have hmf : ∀ (fn : Fn) (first cap : Array Value) (w : World), (Instr.makeFunc fn first cap).run Try.prog w = .ok (.func fn first cap) w := fun _ _ _ _ => rfl
  clear hk
  generalize sfS sid off s fin = S at *
  unfold strE at *
  go_enter Try.func11, Try.ntmps11
  go_wp2_with fail
  refine E.out.mono ?_
  rintro e w2 ⟨rfl, w1, hb, rfl⟩
  have hz := X.out.2.2.2
  have HX := Lib.hid (heap_set (i := 0) (.string S) (heap_below hb X.out.2.1))
  have k0 := at_whole HX.out 0 rfl
  simp only [List.getElem_toArray, List.getElem_cons_zero, List.setIfInBounds_toArray, List.set_cons_zero] at k0
  have HB := Lib.hid (X.out.2.2.1.trans (hb.mono (by rw [hz]; omega)))
  clear hz hb
  go_wp2
  go_returns
  exact ⟨rfl, HB.out.setCell (p := ⟨w.heap.size + 1, 0, none⟩) (Nat.le_succ _) _⟩
end Go.Proofs.Ytpfkeohaaeiaaaa.frm
