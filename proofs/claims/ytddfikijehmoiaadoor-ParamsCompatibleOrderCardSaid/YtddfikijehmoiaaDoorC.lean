/- Law 20: varint's Decode. -/
import Derived.Test.YtddfikijehmoiaaDoorB
import Derived.Deep.QuietTactic
import Derived.BigQuiet
namespace Go.Proofs.YtddfikijehmoiaaDoor
open Go.RowKit
def decV (l : List Int) (a : Int) : Int × Int × Int :=
  if a < 0 ∨ (l.length : Int) < a then (0, 0, 2)
  else if a = l.length then (0, 0, 11)
  else
    let c := (l[a.toNat]?.getD 0) / 64
    let k : Nat := 2 ^ c.toNat
    if (l.length : Int) - a < k then (0, 0, 11)
    else
      let n := beN ((l.drop a.toNat).take k) % (2 ^ (8 * k - 2))
      if cls n = c then (n, a + k, 0) else (0, 0, 10)
def trip (t : Int × Int × Int) : Value := .tuple #[.int .i64 t.1, .int .i64 t.2.1, .int .i64 t.2.2]
theorem decode_out (s : ByteArray) (a : Int) (w : World) (ha : a < 0 ∨ (s.size : Int) < a ∨ a = s.size) :
    Calls Tryd.prog 15 #[.string s, .int .i64 a] w fun e w' => e = .returned (trip (decV (bytesOf s) a)) ∧ Below w.heap.size w w' := by
  have hc : a < 0 ∨ (0 ≤ a ∧ (s.size : Int) < a) ∨ (0 ≤ a ∧ a = s.size) := by omega
  clear ha
  rcases hc with h | ⟨h0, h⟩ | ⟨h0, h⟩
  · have E : Hid (decV (bytesOf s) a = (0, 0, 2)) := Lib.hid (by unfold decV; rw [if_pos (.inl h)])
    go_enter Tryd.func15, Tryd.ntmps15
    go_wp2
    go_returns
    exact ⟨by rw [E.out]; rfl, Below.refl _ _⟩
  · have E : Hid (decV (bytesOf s) a = (0, 0, 2)) := Lib.hid (by unfold decV; rw [if_pos (.inr (by rw [bytesOf_length]; exact h))])
    go_enter Tryd.func15, Tryd.ntmps15
    go_wp2
    go_returns
    exact ⟨by rw [E.out]; rfl, Below.refl _ _⟩
  · have E : Hid (decV (bytesOf s) a = (0, 0, 11)) := Lib.hid (by unfold decV; rw [bytesOf_length, if_neg (by omega), if_pos h])
    subst h
    go_enter Tryd.func15, Tryd.ntmps15
    go_wp2
    go_returns
    exact ⟨by rw [E.out]; rfl, Below.refl _ _⟩
theorem and_mask (N : Int) (m : Nat) (h0 : 0 ≤ N) (h1 : N < 18446744073709551616) (hm : m ≤ 62) : bits .and .u64 N ((2 ^ m - 1 : Nat) : Int) = N % ((2 ^ m : Nat) : Int) := by
  obtain ⟨n, rfl⟩ := Int.eq_ofNat_of_zero_le h0
  have hp : 2 ^ m ≤ 2 ^ 62 := Nat.pow_le_pow_right (by decide) hm
  have h62 : (2 : Nat) ^ 62 = 4611686018427387904 := by decide
  rw [u64_and_nat _ _ (by omega) (by omega), Nat.and_two_pow_sub_one_eq_mod]
  simp
set_option maxRecDepth 100000 in
set_option maxHeartbeats 4000000 in
theorem decode_c0 (s : ByteArray) (a : Nat) (w : World) (ha : a < s.size) (hs : s.size ≤ maxLen) (hc : (((s[a]'ha).toNat : Int)) / 64 = 0) :
    Calls Tryd.prog 15 #[.string s, .int .i64 a] w fun e w' => e = .returned (trip (decV (bytesOf s) a)) ∧ Below w.heap.size w w' := by
  have hat := bytesOf_at s a ha
  have E0 : decV (bytesOf s) a = if (s.size : Int) - a < 1 then (0, 0, 11) else if cls (beN (((bytesOf s).drop a).take 1) % 64) = 0 then (beN (((bytesOf s).drop a).take 1) % 64, (a : Int) + 1, 0) else (0, 0, 10) := by
    unfold decV
    rw [bytesOf_length, if_neg (by omega), if_neg (by omega), Int.toNat_natCast, hat, Option.getD_some, hc]
    rfl
  have hs0 := hs
  unfold maxLen at hs
  by_cases hsh : (s.size : Int) - a < 1
  · have E : Hid (decV (bytesOf s) a = (0, 0, 11)) := Lib.hid (by rw [E0, if_pos hsh])
    clear E0 hat
    first
      | (exfalso; omega)
      | (go_enter Tryd.func15, Tryd.ntmps15
         go_wp2
         go_returns
         exact ⟨by rw [E.out]; rfl, Below.refl _ _⟩)
  · rw [if_neg hsh] at E0
    have RD := Lib.hid (fun n => (read_any s a 1 (w.drewN n) (by omega) hs0 (by decide)).mono (fun e w' h => (⟨h.1, h.2.symm⟩ : e = _ ∧ w' = _)))
    have hvb := beN_bound (((bytesOf s).drop a).take 1) (fun x hx => bytesOf_range s x (List.mem_of_mem_drop (List.mem_of_mem_take hx)))
    have hlen : (((bytesOf s).drop a).take 1).length = 1 := by rw [List.length_take, List.length_drop, bytesOf_length]; omega
    rw [hlen] at hvb
    generalize beN (((bytesOf s).drop a).take 1) = N at *
    have hp : (256 : Int) ^ 1 = 256 := by decide
    rw [hp] at hvb
    have hM : bits .and .u64 N 63 = N % 64 := and_mask N 6 hvb.1 (by omega) (by decide)
    have hn : 0 ≤ N % 64 ∧ N % 64 < 64 := ⟨Int.emod_nonneg _ (by decide), Int.emod_lt_of_pos _ (by decide)⟩
    obtain ⟨n, hnn⟩ : ∃ n, N % 64 = n := ⟨_, rfl⟩
    rw [hnn] at hM hn E0
    have hw : IntKind.i64.wrap n = n := IntWalk.i64_in _ (by omega)
    have hwa : IntKind.i64.wrap ((a : Int) + 1) = (a : Int) + 1 := IntWalk.i64_in _ (by omega)
    have CL := Lib.hid (fun (wx : World) => class_any n wx)
    have HE := Lib.hid E0
    clear E0 hat hp hlen hnn
    by_cases hcl : cls n = 0
    · have E : Hid (decV (bytesOf s) a = (n, (a : Int) + 1, 0)) := Lib.hid (by rw [HE.out, if_pos hcl])
      rw [hcl] at CL
      clear hcl
      go_enter Tryd.func15, Tryd.ntmps15
      go_wp2
      go_quiet ((go_at_call 22; exact Calls.quiet_of_same (RD.out _)))
      go_wp2_with (go_at_call 23; refine (CL.out _).mono ?_; rintro e w' ⟨rfl, hb⟩)
      go_returns
      exact ⟨by rw [E.out]; rfl, ⟨hb.os, hb.tape, hb.output, hb.size, hb.block⟩⟩
    · have E : Hid (decV (bytesOf s) a = (0, 0, 10)) := Lib.hid (by rw [HE.out, if_neg hcl])
      have hb1 : (cls n == 0) = false := by simp [hcl]
      have hb2 : (cls n != 0) = true := by simp [hcl]
      clear hcl
      go_enter Tryd.func15, Tryd.ntmps15
      go_wp2
      go_quiet ((go_at_call 22; exact Calls.quiet_of_same (RD.out _)))
      go_wp2_with (go_at_call 23; refine (CL.out _).mono ?_; rintro e w' ⟨rfl, hb⟩)
      go_returns
      exact ⟨by rw [E.out]; rfl, ⟨hb.os, hb.tape, hb.output, hb.size, hb.block⟩⟩
set_option maxRecDepth 100000 in
set_option maxHeartbeats 4000000 in
theorem decode_c1 (s : ByteArray) (a : Nat) (w : World) (ha : a < s.size) (hs : s.size ≤ maxLen) (hc : (((s[a]'ha).toNat : Int)) / 64 = 1) :
    Calls Tryd.prog 15 #[.string s, .int .i64 a] w fun e w' => e = .returned (trip (decV (bytesOf s) a)) ∧ Below w.heap.size w w' := by
  have hat := bytesOf_at s a ha
  have E0 : decV (bytesOf s) a = if (s.size : Int) - a < 2 then (0, 0, 11) else if cls (beN (((bytesOf s).drop a).take 2) % 16384) = 1 then (beN (((bytesOf s).drop a).take 2) % 16384, (a : Int) + 2, 0) else (0, 0, 10) := by
    unfold decV
    rw [bytesOf_length, if_neg (by omega), if_neg (by omega), Int.toNat_natCast, hat, Option.getD_some, hc]
    rfl
  have hs0 := hs
  unfold maxLen at hs
  by_cases hsh : (s.size : Int) - a < 2
  · have E : Hid (decV (bytesOf s) a = (0, 0, 11)) := Lib.hid (by rw [E0, if_pos hsh])
    clear E0 hat
    first
      | (exfalso; omega)
      | (go_enter Tryd.func15, Tryd.ntmps15
         go_wp2
         go_returns
         exact ⟨by rw [E.out]; rfl, Below.refl _ _⟩)
  · rw [if_neg hsh] at E0
    have RD := Lib.hid (fun n => (read_any s a 2 (w.drewN n) (by omega) hs0 (by decide)).mono (fun e w' h => (⟨h.1, h.2.symm⟩ : e = _ ∧ w' = _)))
    have hvb := beN_bound (((bytesOf s).drop a).take 2) (fun x hx => bytesOf_range s x (List.mem_of_mem_drop (List.mem_of_mem_take hx)))
    have hlen : (((bytesOf s).drop a).take 2).length = 2 := by rw [List.length_take, List.length_drop, bytesOf_length]; omega
    rw [hlen] at hvb
    generalize beN (((bytesOf s).drop a).take 2) = N at *
    have hp : (256 : Int) ^ 2 = 65536 := by decide
    rw [hp] at hvb
    have hM : bits .and .u64 N 16383 = N % 16384 := and_mask N 14 hvb.1 (by omega) (by decide)
    have hn : 0 ≤ N % 16384 ∧ N % 16384 < 16384 := ⟨Int.emod_nonneg _ (by decide), Int.emod_lt_of_pos _ (by decide)⟩
    obtain ⟨n, hnn⟩ : ∃ n, N % 16384 = n := ⟨_, rfl⟩
    rw [hnn] at hM hn E0
    have hw : IntKind.i64.wrap n = n := IntWalk.i64_in _ (by omega)
    have hwa : IntKind.i64.wrap ((a : Int) + 2) = (a : Int) + 2 := IntWalk.i64_in _ (by omega)
    have CL := Lib.hid (fun (wx : World) => class_any n wx)
    have HE := Lib.hid E0
    clear E0 hat hp hlen hnn
    by_cases hcl : cls n = 1
    · have E : Hid (decV (bytesOf s) a = (n, (a : Int) + 2, 0)) := Lib.hid (by rw [HE.out, if_pos hcl])
      rw [hcl] at CL
      clear hcl
      go_enter Tryd.func15, Tryd.ntmps15
      go_wp2
      go_quiet ((go_at_call 22; exact Calls.quiet_of_same (RD.out _)))
      go_wp2_with (go_at_call 23; refine (CL.out _).mono ?_; rintro e w' ⟨rfl, hb⟩)
      go_returns
      exact ⟨by rw [E.out]; rfl, ⟨hb.os, hb.tape, hb.output, hb.size, hb.block⟩⟩
    · have E : Hid (decV (bytesOf s) a = (0, 0, 10)) := Lib.hid (by rw [HE.out, if_neg hcl])
      have hb1 : (cls n == 1) = false := by simp [hcl]
      have hb2 : (cls n != 1) = true := by simp [hcl]
      clear hcl
      go_enter Tryd.func15, Tryd.ntmps15
      go_wp2
      go_quiet ((go_at_call 22; exact Calls.quiet_of_same (RD.out _)))
      go_wp2_with (go_at_call 23; refine (CL.out _).mono ?_; rintro e w' ⟨rfl, hb⟩)
      go_returns
      exact ⟨by rw [E.out]; rfl, ⟨hb.os, hb.tape, hb.output, hb.size, hb.block⟩⟩
set_option maxRecDepth 100000 in
set_option maxHeartbeats 4000000 in
theorem decode_c2 (s : ByteArray) (a : Nat) (w : World) (ha : a < s.size) (hs : s.size ≤ maxLen) (hc : (((s[a]'ha).toNat : Int)) / 64 = 2) :
    Calls Tryd.prog 15 #[.string s, .int .i64 a] w fun e w' => e = .returned (trip (decV (bytesOf s) a)) ∧ Below w.heap.size w w' := by
  have hat := bytesOf_at s a ha
  have E0 : decV (bytesOf s) a = if (s.size : Int) - a < 4 then (0, 0, 11) else if cls (beN (((bytesOf s).drop a).take 4) % 1073741824) = 2 then (beN (((bytesOf s).drop a).take 4) % 1073741824, (a : Int) + 4, 0) else (0, 0, 10) := by
    unfold decV
    rw [bytesOf_length, if_neg (by omega), if_neg (by omega), Int.toNat_natCast, hat, Option.getD_some, hc]
    rfl
  have hs0 := hs
  unfold maxLen at hs
  by_cases hsh : (s.size : Int) - a < 4
  · have E : Hid (decV (bytesOf s) a = (0, 0, 11)) := Lib.hid (by rw [E0, if_pos hsh])
    clear E0 hat
    first
      | (exfalso; omega)
      | (go_enter Tryd.func15, Tryd.ntmps15
         go_wp2
         go_returns
         exact ⟨by rw [E.out]; rfl, Below.refl _ _⟩)
  · rw [if_neg hsh] at E0
    have RD := Lib.hid (fun n => (read_any s a 4 (w.drewN n) (by omega) hs0 (by decide)).mono (fun e w' h => (⟨h.1, h.2.symm⟩ : e = _ ∧ w' = _)))
    have hvb := beN_bound (((bytesOf s).drop a).take 4) (fun x hx => bytesOf_range s x (List.mem_of_mem_drop (List.mem_of_mem_take hx)))
    have hlen : (((bytesOf s).drop a).take 4).length = 4 := by rw [List.length_take, List.length_drop, bytesOf_length]; omega
    rw [hlen] at hvb
    generalize beN (((bytesOf s).drop a).take 4) = N at *
    have hp : (256 : Int) ^ 4 = 4294967296 := by decide
    rw [hp] at hvb
    have hM : bits .and .u64 N 1073741823 = N % 1073741824 := and_mask N 30 hvb.1 (by omega) (by decide)
    have hn : 0 ≤ N % 1073741824 ∧ N % 1073741824 < 1073741824 := ⟨Int.emod_nonneg _ (by decide), Int.emod_lt_of_pos _ (by decide)⟩
    obtain ⟨n, hnn⟩ : ∃ n, N % 1073741824 = n := ⟨_, rfl⟩
    rw [hnn] at hM hn E0
    have hw : IntKind.i64.wrap n = n := IntWalk.i64_in _ (by omega)
    have hwa : IntKind.i64.wrap ((a : Int) + 4) = (a : Int) + 4 := IntWalk.i64_in _ (by omega)
    have CL := Lib.hid (fun (wx : World) => class_any n wx)
    have HE := Lib.hid E0
    clear E0 hat hp hlen hnn
    by_cases hcl : cls n = 2
    · have E : Hid (decV (bytesOf s) a = (n, (a : Int) + 4, 0)) := Lib.hid (by rw [HE.out, if_pos hcl])
      rw [hcl] at CL
      clear hcl
      go_enter Tryd.func15, Tryd.ntmps15
      go_wp2
      go_quiet ((go_at_call 22; exact Calls.quiet_of_same (RD.out _)))
      go_wp2_with (go_at_call 23; refine (CL.out _).mono ?_; rintro e w' ⟨rfl, hb⟩)
      go_returns
      exact ⟨by rw [E.out]; rfl, ⟨hb.os, hb.tape, hb.output, hb.size, hb.block⟩⟩
    · have E : Hid (decV (bytesOf s) a = (0, 0, 10)) := Lib.hid (by rw [HE.out, if_neg hcl])
      have hb1 : (cls n == 2) = false := by simp [hcl]
      have hb2 : (cls n != 2) = true := by simp [hcl]
      clear hcl
      go_enter Tryd.func15, Tryd.ntmps15
      go_wp2
      go_quiet ((go_at_call 22; exact Calls.quiet_of_same (RD.out _)))
      go_wp2_with (go_at_call 23; refine (CL.out _).mono ?_; rintro e w' ⟨rfl, hb⟩)
      go_returns
      exact ⟨by rw [E.out]; rfl, ⟨hb.os, hb.tape, hb.output, hb.size, hb.block⟩⟩
set_option maxRecDepth 100000 in
set_option maxHeartbeats 4000000 in
theorem decode_c3 (s : ByteArray) (a : Nat) (w : World) (ha : a < s.size) (hs : s.size ≤ maxLen) (hc : (((s[a]'ha).toNat : Int)) / 64 = 3) :
    Calls Tryd.prog 15 #[.string s, .int .i64 a] w fun e w' => e = .returned (trip (decV (bytesOf s) a)) ∧ Below w.heap.size w w' := by
  have hat := bytesOf_at s a ha
  have E0 : decV (bytesOf s) a = if (s.size : Int) - a < 8 then (0, 0, 11) else if cls (beN (((bytesOf s).drop a).take 8) % 4611686018427387904) = 3 then (beN (((bytesOf s).drop a).take 8) % 4611686018427387904, (a : Int) + 8, 0) else (0, 0, 10) := by
    unfold decV
    rw [bytesOf_length, if_neg (by omega), if_neg (by omega), Int.toNat_natCast, hat, Option.getD_some, hc]
    rfl
  have hs0 := hs
  unfold maxLen at hs
  by_cases hsh : (s.size : Int) - a < 8
  · have E : Hid (decV (bytesOf s) a = (0, 0, 11)) := Lib.hid (by rw [E0, if_pos hsh])
    clear E0 hat
    first
      | (exfalso; omega)
      | (go_enter Tryd.func15, Tryd.ntmps15
         go_wp2
         go_returns
         exact ⟨by rw [E.out]; rfl, Below.refl _ _⟩)
  · rw [if_neg hsh] at E0
    have RD := Lib.hid (fun n => (read_any s a 8 (w.drewN n) (by omega) hs0 (by decide)).mono (fun e w' h => (⟨h.1, h.2.symm⟩ : e = _ ∧ w' = _)))
    have hvb := beN_bound (((bytesOf s).drop a).take 8) (fun x hx => bytesOf_range s x (List.mem_of_mem_drop (List.mem_of_mem_take hx)))
    have hlen : (((bytesOf s).drop a).take 8).length = 8 := by rw [List.length_take, List.length_drop, bytesOf_length]; omega
    rw [hlen] at hvb
    generalize beN (((bytesOf s).drop a).take 8) = N at *
    have hp : (256 : Int) ^ 8 = 18446744073709551616 := by decide
    rw [hp] at hvb
    have hM : bits .and .u64 N 4611686018427387903 = N % 4611686018427387904 := and_mask N 62 hvb.1 (by omega) (by decide)
    have hn : 0 ≤ N % 4611686018427387904 ∧ N % 4611686018427387904 < 4611686018427387904 := ⟨Int.emod_nonneg _ (by decide), Int.emod_lt_of_pos _ (by decide)⟩
    obtain ⟨n, hnn⟩ : ∃ n, N % 4611686018427387904 = n := ⟨_, rfl⟩
    rw [hnn] at hM hn E0
    have hw : IntKind.i64.wrap n = n := IntWalk.i64_in _ (by omega)
    have hwa : IntKind.i64.wrap ((a : Int) + 8) = (a : Int) + 8 := IntWalk.i64_in _ (by omega)
    have CL := Lib.hid (fun (wx : World) => class_any n wx)
    have HE := Lib.hid E0
    clear E0 hat hp hlen hnn
    by_cases hcl : cls n = 3
    · have E : Hid (decV (bytesOf s) a = (n, (a : Int) + 8, 0)) := Lib.hid (by rw [HE.out, if_pos hcl])
      rw [hcl] at CL
      clear hcl
      go_enter Tryd.func15, Tryd.ntmps15
      go_wp2
      go_quiet ((go_at_call 22; exact Calls.quiet_of_same (RD.out _)))
      go_wp2_with (go_at_call 23; refine (CL.out _).mono ?_; rintro e w' ⟨rfl, hb⟩)
      go_returns
      exact ⟨by rw [E.out]; rfl, ⟨hb.os, hb.tape, hb.output, hb.size, hb.block⟩⟩
    · have E : Hid (decV (bytesOf s) a = (0, 0, 10)) := Lib.hid (by rw [HE.out, if_neg hcl])
      have hb1 : (cls n == 3) = false := by simp [hcl]
      have hb2 : (cls n != 3) = true := by simp [hcl]
      clear hcl
      go_enter Tryd.func15, Tryd.ntmps15
      go_wp2
      go_quiet ((go_at_call 22; exact Calls.quiet_of_same (RD.out _)))
      go_wp2_with (go_at_call 23; refine (CL.out _).mono ?_; rintro e w' ⟨rfl, hb⟩)
      go_returns
      exact ⟨by rw [E.out]; rfl, ⟨hb.os, hb.tape, hb.output, hb.size, hb.block⟩⟩
theorem decode_any (s : ByteArray) (a : Int) (w : World) (hs : s.size ≤ maxLen) :
    Calls Tryd.prog 15 #[.string s, .int .i64 a] w fun e w' => e = .returned (trip (decV (bytesOf s) a)) ∧ Below w.heap.size w w' := by
  by_cases h : a < 0 ∨ (s.size : Int) < a ∨ a = s.size
  · exact decode_out s a w h
  · obtain ⟨k, rfl⟩ : ∃ k : Nat, a = k := ⟨a.toNat, by omega⟩
    have hk : k < s.size := by omega
    have hb := bytesOf_range s _ (List.mem_of_getElem? (bytesOf_at s k hk))
    have hc : (((s[k]'hk).toNat : Int)) / 64 = 0 ∨ (((s[k]'hk).toNat : Int)) / 64 = 1 ∨ (((s[k]'hk).toNat : Int)) / 64 = 2 ∨ (((s[k]'hk).toNat : Int)) / 64 = 3 := by omega
    rcases hc with hc | hc | hc | hc
    · exact decode_c0 s k w hk hs hc
    · exact decode_c1 s k w hk hs hc
    · exact decode_c2 s k w hk hs hc
    · exact decode_c3 s k w hk hs hc
end Go.Proofs.YtddfikijehmoiaaDoor
