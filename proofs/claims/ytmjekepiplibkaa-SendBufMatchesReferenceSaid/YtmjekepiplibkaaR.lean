import Derived.Test.YtmjekepiplibkaaQ
namespace Go.Proofs.Ytmjekepiplibkaa
open Go.RowKit
def S1 : Bf := ⟨4, 0, [97, 98, 99, 100], [0, 0, 0, 0], 0, false, 0⟩
def S2 : Bf := ⟨4, 0, [97, 98, 99, 100], [1, 1, 1, 0], 3, false, 0⟩
def S4 : Bf := ⟨4, 0, [97, 98, 99, 100], [1, 1, 1, 1], 4, false, 0⟩
def S5 : Bf := ⟨4, 0, [97, 98, 99, 100], [2, 2, 2, 1], 4, false, 0⟩
def S6 : Bf := ⟨4, 0, [97, 98, 99, 100], [1, 1, 2, 1], 4, false, 0⟩
def S7 : Bf := ⟨4, 0, [97, 98, 99, 100], [1, 1, 1, 1], 4, false, 0⟩
def S8 : Bf := ⟨4, 2, [99, 100], [1, 1], 4, false, 0⟩
def S9 : Bf := ⟨4, 2, [99, 100], [1, 1], 4, true, 0⟩
def S10 : Bf := ⟨4, 2, [99, 100], [1, 1], 4, true, 1⟩
def f3 : Fr := mkFr 8 0 ⟨#[97, 98, 99]⟩ false
def f5 : Fr := mkFr 8 3 ⟨#[100]⟩ false
def f7 : Fr := mkFr 8 0 ⟨#[97, 98]⟩ false
def f8 : Fr := mkFr 8 2 ⟨#[99]⟩ false
def f12 : Fr := mkFr 8 4 ⟨#[]⟩ true
theorem s1 : writeN (newB 4) ⟨#[97, 98, 99, 100, 101, 102]⟩ = 4 ∧ writeF (newB 4) ⟨#[97, 98, 99, 100, 101, 102]⟩ = S1 := by constructor <;> rfl
theorem s2 : nextP S1 3 10 = some (0, 3) ∧ nextB S1 (some (0, 3)) = S2 := by constructor <;> rfl
theorem s2r : nextR S1 (some (0, 3)) = f3 := by rfl
theorem s3 : nextP S2 3 0 = none := by rfl
theorem s4 : nextP S2 3 10 = some (3, 4) ∧ nextB S2 (some (3, 4)) = S4 ∧ nextR S2 (some (3, 4)) = f5 := by refine ⟨?_, ?_, ?_⟩ <;> rfl
theorem s5 : fitsF S4 f3 = true ∧ lostB S4 f3 = S5 := by constructor <;> rfl
theorem s6 : nextP S5 2 0 = some (0, 2) ∧ nextB S5 (some (0, 2)) = S6 ∧ nextR S5 (some (0, 2)) = f7 := by refine ⟨?_, ?_, ?_⟩ <;> rfl
theorem s7 : nextP S6 2 0 = some (2, 3) ∧ nextB S6 (some (2, 3)) = S7 ∧ nextR S6 (some (2, 3)) = f8 := by refine ⟨?_, ?_, ?_⟩ <;> rfl
theorem s8 : fitsF S7 f7 = true ∧ ackB S7 f7 = S8 := by constructor <;> rfl
theorem s9 : spaceF S8 = 2 := by rfl
theorem s10 : nextP S9 0 0 = some (2, 2) ∧ nextB S9 (some (2, 2)) = S10 ∧ nextR S9 (some (2, 2)) = f12 := by refine ⟨?_, ?_, ?_⟩ <;> rfl
theorem s11 : fitsF S10 (mkFr 8 5 ⟨#[]⟩ false) = false := by rfl

theorem good_of (B : Bf) (l1 : 1 ≤ B.lim) (l2 : B.lim ≤ 8192) (b0 : 0 ≤ B.base) (b1 : B.base ≤ 100000) (len : B.st.length = B.data.length) (cap : (B.data.length : Int) ≤ B.lim) (s0 : B.base ≤ B.sent) (s1 : B.sent ≤ B.base + B.data.length) : Good B := ⟨l1, l2, b0, by omega, len, cap, s0, s1⟩
theorem g0 : Good (newB 4) := by refine good_of _ ?_ ?_ ?_ ?_ ?_ ?_ ?_ ?_ <;> decide
theorem g1 : Good S1 := by refine good_of _ ?_ ?_ ?_ ?_ ?_ ?_ ?_ ?_ <;> decide
theorem g2 : Good S2 := by refine good_of _ ?_ ?_ ?_ ?_ ?_ ?_ ?_ ?_ <;> decide
theorem g4 : Good S4 := by refine good_of _ ?_ ?_ ?_ ?_ ?_ ?_ ?_ ?_ <;> decide
theorem g5 : Good S5 := by refine good_of _ ?_ ?_ ?_ ?_ ?_ ?_ ?_ ?_ <;> decide
theorem g6 : Good S6 := by refine good_of _ ?_ ?_ ?_ ?_ ?_ ?_ ?_ ?_ <;> decide
theorem g7 : Good S7 := by refine good_of _ ?_ ?_ ?_ ?_ ?_ ?_ ?_ ?_ <;> decide
theorem g8 : Good S8 := by refine good_of _ ?_ ?_ ?_ ?_ ?_ ?_ ?_ ?_ <;> decide
theorem g9 : Good S9 := by refine good_of _ ?_ ?_ ?_ ?_ ?_ ?_ ?_ ?_ <;> decide
theorem g10 : Good S10 := by refine good_of _ ?_ ?_ ?_ ?_ ?_ ?_ ?_ ?_ <;> decide
section
variable {W w : World} {b : Nat} {F : Nat → Prop} {fs : List (Nat × Fr)}
theorem c1 (h : St W w b F (newB 4) fs) : Calls Try.prog 14 #[.pointer (some ⟨b, 0, none⟩), .string ⟨#[97, 98, 99, 100, 101, 102]⟩] w fun e w' => e = .returned (.int .i64 4) ∧ ∃ F', St W w' b F' S1 fs :=
  (st_write h g0 _ (by decide)).mono fun _ _ hh => by rw [s1.1, s1.2] at hh; exact hh
theorem c2 (h : St W w b F S1 fs) : Calls Try.prog 16 #[.pointer (some ⟨b, 0, none⟩), .int .i64 3, .int .i64 10] w fun e w' => e = .returned (.tuple #[f3.val, .bool true]) ∧ ∃ F', St W w' b F' S2 fs :=
  (st_next h g1 3 10).mono fun _ _ hh => by rw [s2.1, s2.2, s2r] at hh; exact hh
theorem c3 (h : St W w b F S2 fs) : Calls Try.prog 16 #[.pointer (some ⟨b, 0, none⟩), .int .i64 3, .int .i64 0] w fun e w' => e = .returned (.tuple #[fr0.val, .bool false]) ∧ ∃ F', St W w' b F' S2 fs :=
  (st_next h g2 3 0).mono fun _ _ hh => by rw [s3] at hh; exact hh
theorem c4 (h : St W w b F S2 fs) : Calls Try.prog 16 #[.pointer (some ⟨b, 0, none⟩), .int .i64 3, .int .i64 10] w fun e w' => e = .returned (.tuple #[f5.val, .bool true]) ∧ ∃ F', St W w' b F' S4 fs :=
  (st_next h g2 3 10).mono fun _ _ hh => by rw [s4.1, s4.2.1, s4.2.2] at hh; exact hh
theorem c5 (h : St W w b F S4 fs) : Calls Try.prog 17 #[.pointer (some ⟨b, 0, none⟩), f3.val] w fun e w' => e = .returned (.int .i64 0) ∧ ∃ F', St W w' b F' S5 fs :=
  (st_lost h g4 f3).mono fun _ _ hh => by rw [s5.2, show ackE S4 f3 = 0 from by unfold ackE; rw [s5.1]; rfl] at hh; exact hh
theorem c6 (h : St W w b F S5 fs) : Calls Try.prog 16 #[.pointer (some ⟨b, 0, none⟩), .int .i64 2, .int .i64 0] w fun e w' => e = .returned (.tuple #[f7.val, .bool true]) ∧ ∃ F', St W w' b F' S6 fs :=
  (st_next h g5 2 0).mono fun _ _ hh => by rw [s6.1, s6.2.1, s6.2.2] at hh; exact hh
theorem c7 (h : St W w b F S6 fs) : Calls Try.prog 16 #[.pointer (some ⟨b, 0, none⟩), .int .i64 2, .int .i64 0] w fun e w' => e = .returned (.tuple #[f8.val, .bool true]) ∧ ∃ F', St W w' b F' S7 fs :=
  (st_next h g6 2 0).mono fun _ _ hh => by rw [s7.1, s7.2.1, s7.2.2] at hh; exact hh
theorem c8 (h : St W w b F S7 fs) : Calls Try.prog 18 #[.pointer (some ⟨b, 0, none⟩), f7.val] w fun e w' => e = .returned (.int .i64 0) ∧ ∃ F', St W w' b F' S8 fs :=
  (st_acked h g7 f7).mono fun _ _ hh => by rw [s8.2, show ackE S7 f7 = 0 from by unfold ackE; rw [s8.1]; rfl] at hh; exact hh
theorem c9 (h : St W w b F S8 fs) : Calls Try.prog 19 #[.pointer (some ⟨b, 0, none⟩)] w fun e w' => e = .returned (.int .i64 2) ∧ ∃ F', St W w' b F' S8 fs :=
  (st_space h g8).mono fun _ _ hh => by rw [s9] at hh; exact hh
theorem c10 (h : St W w b F S8 fs) : Calls Try.prog 15 #[.pointer (some ⟨b, 0, none⟩)] w fun e w' => e = .returned (.tuple #[]) ∧ ∃ F', St W w' b F' S9 fs :=
  st_finish h
theorem c11 (h : St W w b F S9 fs) : Calls Try.prog 16 #[.pointer (some ⟨b, 0, none⟩), .int .i64 0, .int .i64 0] w fun e w' => e = .returned (.tuple #[f12.val, .bool true]) ∧ ∃ F', St W w' b F' S10 fs :=
  (st_next h g9 0 0).mono fun _ _ hh => by rw [s10.1, s10.2.1, s10.2.2] at hh; exact hh
theorem c12 (h : St W w b F S10 fs) : Calls Try.prog 18 #[.pointer (some ⟨b, 0, none⟩), (mkFr 8 5 ⟨#[]⟩ false).val] w fun e w' => e = .returned (.int .i64 170) ∧ ∃ F', St W w' b F' S10 fs :=
  (st_acked h g10 (mkFr 8 5 ⟨#[]⟩ false)).mono fun _ _ hh => by rw [show ackB S10 (mkFr 8 5 ⟨#[]⟩ false) = S10 from by unfold ackB; rw [s11]; rfl, show ackE S10 (mkFr 8 5 ⟨#[]⟩ false) = 170 from by unfold ackE; rw [s11]; rfl] at hh; exact hh
end
end Go.Proofs.Ytmjekepiplibkaa
