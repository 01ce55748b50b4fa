import Derived.Test.YtmjekepiplibkaaRej
namespace Go.Proofs.Ytmjekepiplibkaa
open Go.RowKit
/-- the bytes from a to s of the stream, in a frame -/
def crR (a s : Nat) : Fr := mkFr 8 a (strOfNums (((streamRow 500 500).drop a).take (s - a))) false
theorem crR_size {a s : Nat} (h : s ≤ 500) : (crR a s).s.size = s - a := by simp [crR, mkFr, strOfNums_size, streamRow_length]; omega
theorem fl500_S (s : Nat) : (flX 500 500 s).S = streamRow 500 500 := by
  simp only [flX]; exact List.take_of_length_le (by rw [streamRow_length]; decide)
theorem fl500_frameR (a s : Nat) : (flX 500 500 a).frameR a s = crR a s := by
  rw [fl_frameR, crR, List.take_of_length_le (l := streamRow 500 500) (by rw [streamRow_length]; decide)]
section
variable {W w : World} {b : Nat} {F : Nat → Prop} {fs : List (Nat × Fr)} {s : Nat}
theorem ok500 (hs : s ≤ 500) : (flX 500 500 s).Ok := fl_ok (by omega) (by decide) (by decide)
theorem cr_new (hB : Below W.heap.size W w) : Calls Try.prog 12 #[.int .i64 500] w fun e w' => e = .returned (.tuple #[.pointer (some ⟨w.heap.size, 0, none⟩), .int .i64 0]) ∧ St W w' w.heap.size (fun k => k = w.heap.size) (newX 500).buf [] :=
  (new_ok 500 w (by decide) (by decide)).mono (fun e w' hh => ⟨hh.1, by rw [hh.2]; exact st_new 500 W w hB⟩)
theorem stream500 (w : World) : Calls Try.prog 10 #[.int .i64 500] w fun e w' => e = .returned (.string (strOfNums (streamRow 500 500))) ∧ Below w.heap.size w w' := stream_any 500 w (by decide)
theorem cr_write (h : St W w b F (newX 500).buf fs) : Calls Try.prog 14 #[.pointer (some ⟨b, 0, none⟩), .string (strOfNums (streamRow 500 500))] w fun e w' => e = .returned (.int .i64 500) ∧ ∃ F', St W w' b F' (flX 500 500 0).buf fs :=
  (wh_write h (newX_ok 500 (by decide) (by decide)) (strOfNums (streamRow 500 500)) (by rw [strOfNums_size, streamRow_length]; decide)).mono (fun e w' hh => by
    rw [show ((500 : Int)) = ((500 : Nat) : Int) from rfl, start_eq, start_writeN] at hh; exact hh)
theorem cr_sent (h : St W w b F (flX 500 500 s).buf fs) (hs : s ≤ 500) : Calls Try.prog 21 #[.pointer (some ⟨b, 0, none⟩)] w fun e w' => e = .returned (.int .i64 s) ∧ w = w' :=
  (wh_sent h).mono (fun e w' hh => by rw [fl_sent (by omega)] at hh; exact hh)
theorem cr_yes (h : St W w b F (flX 500 500 s).buf fs) (hs : s < 500) (ps c : Int) (p0 : 0 ≤ ps) (c0 : 0 < c) :
    Calls Try.prog 16 #[.pointer (some ⟨b, 0, none⟩), .int .i64 (1 + ps), .int .i64 c] w fun e w' => ∃ V s2, Hid (V = .agg (crR s s2).cells) ∧ e = .returned (.tuple #[V, .bool true]) ∧ (s < s2 ∧ s2 ≤ 500 ∧ (s2 : Int) - s ≤ c) ∧ ∃ F', St W w' b F' (flX 500 500 s2).buf fs :=
  (wh_next h (ok500 (by omega)) (1 + ps) c).mono (fun e w' hh => by
    rw [fl_next (by omega) _ _ (by omega), if_pos ⟨by omega, c0⟩] at hh
    obtain ⟨he, F', hS⟩ := hh
    have e1 : ((min 500 500 : Nat) : Int) = 500 := rfl
    have e2 : (flX 500 500 s).nextX (some (s, s + (min (((min 500 500 : Nat) : Int) - s) (min (1 + ps) c)).toNat)) = flX 500 500 (s + (min (((min 500 500 : Nat) : Int) - s) (min (1 + ps) c)).toNat) := fl_frame (by omega) (by omega)
    rw [e2] at hS
    exact ⟨_, s + (min (((min 500 500 : Nat) : Int) - s) (min (1 + ps) c)).toNat, Lib.hid (by rw [← fl500_frameR]; rfl), he, ⟨by omega, by omega, by omega⟩, F', hS⟩)
theorem cr_no (h : St W w b F (flX 500 500 s).buf fs) (hs : s ≤ 500) (ps c : Int) (p0 : 0 ≤ ps) (c0 : c = 0 ∨ s = 500) :
    Calls Try.prog 16 #[.pointer (some ⟨b, 0, none⟩), .int .i64 (1 + ps), .int .i64 c] w fun e w' => ∃ V, Hid (V = .agg fr0.cells) ∧ e = .returned (.tuple #[V, .bool false]) ∧ ∃ F', St W w' b F' (flX 500 500 s).buf fs :=
  (wh_next h (ok500 (by omega)) (1 + ps) c).mono (fun e w' hh => by
    rw [fl_next (by omega) _ _ (by omega), if_neg (by omega)] at hh
    exact ⟨_, Lib.hid rfl, hh⟩)
theorem cr_none (h : St W w b F (flX 500 500 s).buf fs) (hs : s ≤ 500) :
    Calls Try.prog 16 #[.pointer (some ⟨b, 0, none⟩), .int .i64 10, .int .i64 0] w fun e w' => ∃ V, Hid (V = .agg fr0.cells) ∧ e = .returned (.tuple #[V, .bool false]) ∧ ∃ F', St W w' b F' (flX 500 500 s).buf fs := cr_no h hs 9 0 (by decide) (.inl rfl)
end
section
variable {a s : Nat}
theorem cr_fits (h : a ≤ s) (hs : s ≤ 500) : (flX 500 500 s).fits (crR a s) = true := by
  have hS : (flX 500 500 s).sent = s := fl_sent (by omega)
  have hz := crR_size (a := a) hs
  unfold Wh.fits Wh.head Wh.tail
  rw [hS, hz]
  have hb : bytesOf (crR a s).s = ((streamRow 500 500).drop a).take (s - a) := bytes_str _ (fun x hx => streamRow_byte 500 500 x (List.mem_of_mem_drop (List.mem_of_mem_take hx)))
  have ho : (crR a s).off = a := rfl
  have hf : (crR a s).fin = false := rfl
  have ht : (crR a s).ty = 8 := rfl
  rw [ho, hf, ht]
  simp only [decide_true, Bool.true_and, Bool.not_false, Bool.true_or, Bool.and_true, Bool.and_eq_true, decide_eq_true_eq, List.all_eq_true, List.mem_range]
  refine ⟨⟨⟨by omega, by omega⟩, by omega⟩, fun i hi => ?_⟩
  unfold Wh.okAt
  rw [hb, ho, gd_take _ _ _ hi, gd_drop, fl500_S]
  rw [show ((a : Int) + (i : Int)).toNat = a + i by omega]
  simp
def crL (a s : Nat) : Wh := Wh.mark false (flX 500 500 s) (crR a s)
theorem cr_lostX (h : a ≤ s) (hs : s ≤ 500) : (flX 500 500 s).lost (crR a s) = crL a s := by
  unfold Wh.lost; rw [cr_fits h hs]; rfl
theorem gd_crL (h : a ≤ s) (hs : s ≤ 500) (j : Nat) : gd (crL a s).T j = if a ≤ j ∧ j < s then 2 else if j < s then 1 else 0 := by
  unfold crL Wh.mark
  simp only []
  rw [crR_size hs, gd_turnTo _ _ _ _ _ (by simp only [flX]; rw [stT_length (by omega)]; show (a : Int).toNat + _ ≤ _; omega)]
  simp only [flX, gd_stT]
  rw [show (crR a s).off.toNat = a from by show (a : Int).toNat = a; omega]
  by_cases e : a ≤ j ∧ j < s
  · rw [if_pos (show a ≤ j ∧ j < a + (s - a) by omega), if_pos e, if_pos e.2]; rfl
  · rw [if_neg (show ¬ (a ≤ j ∧ j < a + (s - a)) by omega), if_neg e]
theorem crL_len (hs : s ≤ 500) : (crL a s).T.length = 500 := by unfold crL Wh.mark; simp only [turnTo_length, flX]; rw [stT_length (by omega)]; exact Nat.min_self _
theorem crL_ok (h : a ≤ s) (hs : s ≤ 500) : (crL a s).Ok := by rw [← cr_lostX h hs]; exact (ok500 hs).lost _
theorem crL_next (h : a < s) (hs : s ≤ 500) : (crL a s).nextP 1000 0 = some (a, s) := by
  have hl := crL_len (a := a) hs
  have e1 : first 2 (crL a s).T = a := first_is (by omega) (fun k hk => by rw [gd_crL (by omega) hs, if_neg (by omega)]; split <;> decide) (fun _ => by rw [gd_crL (by omega) hs, if_pos (by omega)])
  have e0 : (1000 : Int).toNat = 1000 := rfl
  have e2 : runLen 2 ((crL a s).T.drop a) (1000 : Int).toNat = s - a := runLen_is (by rw [e0]; omega) (by simp only [List.length_drop]; omega) (fun k hk => by rw [gd_drop, gd_crL (by omega) hs, if_pos (by omega)]) (fun h1 h2 => by
    rw [gd_drop, gd_crL (by omega) hs, if_neg (by omega), if_neg (by omega)]; decide)
  unfold Wh.nextP
  rw [if_neg (by decide), if_pos ⟨by decide, by omega⟩, e1, e2]
  congr 2; omega
theorem crL_R (a s : Nat) : (crL a s).frameR a s = crR a s := by
  unfold Wh.frameR Wh.finT
  rw [show (crL a s).opn = false from by simp [crL, Wh.mark, Wh.opn, flX]]
  have e1 : (crL a s).S = (flX 500 500 s).S := by simp only [crL, Wh.mark]
  rw [e1, fl500_S]
  simp [crR]
variable {W w : World} {b : Nat} {F : Nat → Prop} {fs : List (Nat × Fr)}
theorem cr_lost (h : St W w b F (flX 500 500 s).buf fs) (ha : a ≤ s) (hs : s ≤ 500) : Calls Try.prog 17 #[.pointer (some ⟨b, 0, none⟩), (crR a s).val] w fun e w' => e = .returned (.int .i64 0) ∧ ∃ F', St W w' b F' (crL a s).buf fs :=
  (wh_lost h (ok500 hs) (crR a s)).mono (fun e w' hh => by
    rw [cr_lostX ha hs, show (flX 500 500 s).err (crR a s) = 0 from by unfold Wh.err; rw [cr_fits ha hs]; rfl] at hh; exact hh)
theorem cr_again (h : St W w b F (crL a s).buf fs) (ha : a < s) (hs : s ≤ 500) :
    Calls Try.prog 16 #[.pointer (some ⟨b, 0, none⟩), .int .i64 1000, .int .i64 0] w fun e w' => ∃ V, Hid (V = .agg (crR a s).cells) ∧ e = .returned (.tuple #[V, .bool true]) ∧ ∃ F' X, St W w' b F' X fs :=
  (wh_next h (crL_ok (by omega) hs) 1000 0).mono (fun e w' hh => by
    rw [crL_next ha hs] at hh
    obtain ⟨he, F', hS⟩ := hh
    exact ⟨_, Lib.hid (by rw [← crL_R]; rfl), he, F', _, hS⟩)
end
end Go.Proofs.Ytmjekepiplibkaa
