/- Texts R S Structs of this claim, one behind the other. -/
import Derived.Test.YtpfkeohaaeiaaaaGreatDoorRc25
import Derived.Deep.WholeRow
import Derived.Test.YtpfkeohaaeiaaaaGreatDoorRc1
import Derived.Deep.Slices
import Derived.Deep.Fields
import Derived.ChangeSame
namespace Go.Proofs.YtpfkeohaaeiaaaaGreatDoor
open Go.RowKit
set_option maxRecDepth 100000
def S1 : Bf := ⟨4, 0, [97, 98, 99, 100], [0, 0, 0, 0], 0, false, 0⟩
def S2 : Bf := ⟨4, 0, [97, 98, 99, 100], [1, 1, 1, 0], 3, false, 0⟩
def S4 : Bf := ⟨4, 0, [97, 98, 99, 100], [1, 1, 1, 1], 4, false, 0⟩
def S5 : Bf := ⟨4, 0, [97, 98, 99, 100], [2, 2, 2, 1], 4, false, 0⟩
def S6 : Bf := ⟨4, 0, [97, 98, 99, 100], [1, 1, 2, 1], 4, false, 0⟩
def S7 : Bf := ⟨4, 0, [97, 98, 99, 100], [1, 1, 1, 1], 4, false, 0⟩
def S8 : Bf := ⟨4, 2, [99, 100], [1, 1], 4, false, 0⟩
def S9 : Bf := ⟨4, 2, [99, 100], [1, 1], 4, true, 0⟩
def S10 : Bf := ⟨4, 2, [99, 100], [1, 1], 4, true, 1⟩
def f3 : Fr := mkFr 8 0 ⟨#[97, 98, 99]⟩ false
def f5 : Fr := mkFr 8 3 ⟨#[100]⟩ false
def f7 : Fr := mkFr 8 0 ⟨#[97, 98]⟩ false
def f8 : Fr := mkFr 8 2 ⟨#[99]⟩ false
def f12 : Fr := mkFr 8 4 ⟨#[]⟩ true
theorem s1 : writeN (newB 4) ⟨#[97, 98, 99, 100, 101, 102]⟩ = 4 ∧ writeF (newB 4) ⟨#[97, 98, 99, 100, 101, 102]⟩ = S1 := by constructor <;> rfl
theorem s2 : nextP S1 3 10 = some (0, 3) ∧ nextB S1 (some (0, 3)) = S2 := by constructor <;> rfl
theorem s2r : nextR S1 (some (0, 3)) = f3 := by rfl
theorem s3 : nextP S2 3 0 = none := by rfl
theorem s4 : nextP S2 3 10 = some (3, 4) ∧ nextB S2 (some (3, 4)) = S4 ∧ nextR S2 (some (3, 4)) = f5 := by refine ⟨?_, ?_, ?_⟩ <;> rfl
theorem s5 : fitsF S4 f3 = true ∧ lostB S4 f3 = S5 := by constructor <;> rfl
theorem s6 : nextP S5 2 0 = some (0, 2) ∧ nextB S5 (some (0, 2)) = S6 ∧ nextR S5 (some (0, 2)) = f7 := by refine ⟨?_, ?_, ?_⟩ <;> rfl
theorem s7 : nextP S6 2 0 = some (2, 3) ∧ nextB S6 (some (2, 3)) = S7 ∧ nextR S6 (some (2, 3)) = f8 := by refine ⟨?_, ?_, ?_⟩ <;> rfl
theorem s8 : fitsF S7 f7 = true ∧ ackB S7 f7 = S8 := by constructor <;> rfl
theorem s9 : spaceF S8 = 2 := by rfl
theorem s10 : nextP S9 0 0 = some (2, 2) ∧ nextB S9 (some (2, 2)) = S10 ∧ nextR S9 (some (2, 2)) = f12 := by refine ⟨?_, ?_, ?_⟩ <;> rfl
theorem s11 : fitsF S10 (mkFr 8 5 ⟨#[]⟩ false) = false := by rfl

theorem good_of (B : Bf) (l1 : 1 ≤ B.lim) (l2 : B.lim ≤ 8192) (b0 : 0 ≤ B.base) (b1 : B.base ≤ 100000) (len : B.st.length = B.data.length) (cap : (B.data.length : Int) ≤ B.lim) (s0 : B.base ≤ B.sent) (s1 : B.sent ≤ B.base + B.data.length) : Good B := ⟨l1, l2, b0, by omega, len, cap, s0, s1⟩
theorem g0 : Good (newB 4) := by refine good_of _ ?_ ?_ ?_ ?_ ?_ ?_ ?_ ?_ <;> decide
theorem g1 : Good S1 := by refine good_of _ ?_ ?_ ?_ ?_ ?_ ?_ ?_ ?_ <;> decide
theorem g2 : Good S2 := by refine good_of _ ?_ ?_ ?_ ?_ ?_ ?_ ?_ ?_ <;> decide
theorem g4 : Good S4 := by refine good_of _ ?_ ?_ ?_ ?_ ?_ ?_ ?_ ?_ <;> decide
theorem g5 : Good S5 := by refine good_of _ ?_ ?_ ?_ ?_ ?_ ?_ ?_ ?_ <;> decide
theorem g6 : Good S6 := by refine good_of _ ?_ ?_ ?_ ?_ ?_ ?_ ?_ ?_ <;> decide
theorem g7 : Good S7 := by refine good_of _ ?_ ?_ ?_ ?_ ?_ ?_ ?_ ?_ <;> decide
theorem g8 : Good S8 := by refine good_of _ ?_ ?_ ?_ ?_ ?_ ?_ ?_ ?_ <;> decide
theorem g9 : Good S9 := by refine good_of _ ?_ ?_ ?_ ?_ ?_ ?_ ?_ ?_ <;> decide
theorem g10 : Good S10 := by refine good_of _ ?_ ?_ ?_ ?_ ?_ ?_ ?_ ?_ <;> decide
section
variable {W w : World} {b : Nat} {F : Nat → Prop} {fs : List (Nat × Fr)}
theorem c1 (h : St W w b F (newB 4) fs) : Calls Tryz.prog 10 #[.pointer (some ⟨b, 0, none⟩), .string ⟨#[97, 98, 99, 100, 101, 102]⟩] w fun e w' => e = .returned (.int .i64 4) ∧ ∃ F', St W w' b F' S1 fs :=
  (st_write h g0 _ (by decide)).mono fun _ _ hh => by rw [s1.1, s1.2] at hh; exact hh
theorem c2 (h : St W w b F S1 fs) : Calls Tryz.prog 24 #[.pointer (some ⟨b, 0, none⟩), .int .i64 3, .int .i64 10] w fun e w' => e = .returned (.tuple #[f3.val, .bool true]) ∧ ∃ F', St W w' b F' S2 fs :=
  (st_next h g1 3 10).mono fun _ _ hh => by rw [s2.1, s2.2, s2r] at hh; exact hh
theorem c3 (h : St W w b F S2 fs) : Calls Tryz.prog 24 #[.pointer (some ⟨b, 0, none⟩), .int .i64 3, .int .i64 0] w fun e w' => e = .returned (.tuple #[fr0.val, .bool false]) ∧ ∃ F', St W w' b F' S2 fs :=
  (st_next h g2 3 0).mono fun _ _ hh => by rw [s3] at hh; exact hh
theorem c4 (h : St W w b F S2 fs) : Calls Tryz.prog 24 #[.pointer (some ⟨b, 0, none⟩), .int .i64 3, .int .i64 10] w fun e w' => e = .returned (.tuple #[f5.val, .bool true]) ∧ ∃ F', St W w' b F' S4 fs :=
  (st_next h g2 3 10).mono fun _ _ hh => by rw [s4.1, s4.2.1, s4.2.2] at hh; exact hh
theorem c5 (h : St W w b F S4 fs) : Calls Tryz.prog 25 #[.pointer (some ⟨b, 0, none⟩), f3.val] w fun e w' => e = .returned (.int .i64 0) ∧ ∃ F', St W w' b F' S5 fs :=
  (st_lost h g4 f3).mono fun _ _ hh => by rw [s5.2, show ackE S4 f3 = 0 from by unfold ackE; rw [s5.1]; rfl] at hh; exact hh
theorem c6 (h : St W w b F S5 fs) : Calls Tryz.prog 24 #[.pointer (some ⟨b, 0, none⟩), .int .i64 2, .int .i64 0] w fun e w' => e = .returned (.tuple #[f7.val, .bool true]) ∧ ∃ F', St W w' b F' S6 fs :=
  (st_next h g5 2 0).mono fun _ _ hh => by rw [s6.1, s6.2.1, s6.2.2] at hh; exact hh
theorem c7 (h : St W w b F S6 fs) : Calls Tryz.prog 24 #[.pointer (some ⟨b, 0, none⟩), .int .i64 2, .int .i64 0] w fun e w' => e = .returned (.tuple #[f8.val, .bool true]) ∧ ∃ F', St W w' b F' S7 fs :=
  (st_next h g6 2 0).mono fun _ _ hh => by rw [s7.1, s7.2.1, s7.2.2] at hh; exact hh
theorem c8 (h : St W w b F S7 fs) : Calls Tryz.prog 26 #[.pointer (some ⟨b, 0, none⟩), f7.val] w fun e w' => e = .returned (.int .i64 0) ∧ ∃ F', St W w' b F' S8 fs :=
  (st_acked h g7 f7).mono fun _ _ hh => by rw [s8.2, show ackE S7 f7 = 0 from by unfold ackE; rw [s8.1]; rfl] at hh; exact hh
theorem c9 (h : St W w b F S8 fs) : Calls Tryz.prog 27 #[.pointer (some ⟨b, 0, none⟩)] w fun e w' => e = .returned (.int .i64 2) ∧ ∃ F', St W w' b F' S8 fs :=
  (st_space h g8).mono fun _ _ hh => by rw [s9] at hh; exact hh
theorem c10 (h : St W w b F S8 fs) : Calls Tryz.prog 11 #[.pointer (some ⟨b, 0, none⟩)] w fun e w' => e = .returned (.tuple #[]) ∧ ∃ F', St W w' b F' S9 fs :=
  st_finish h
theorem c11 (h : St W w b F S9 fs) : Calls Tryz.prog 24 #[.pointer (some ⟨b, 0, none⟩), .int .i64 0, .int .i64 0] w fun e w' => e = .returned (.tuple #[f12.val, .bool true]) ∧ ∃ F', St W w' b F' S10 fs :=
  (st_next h g9 0 0).mono fun _ _ hh => by rw [s10.1, s10.2.1, s10.2.2] at hh; exact hh
theorem c12 (h : St W w b F S10 fs) : Calls Tryz.prog 26 #[.pointer (some ⟨b, 0, none⟩), (mkFr 8 5 ⟨#[]⟩ false).val] w fun e w' => e = .returned (.int .i64 170) ∧ ∃ F', St W w' b F' S10 fs :=
  (st_acked h g10 (mkFr 8 5 ⟨#[]⟩ false)).mono fun _ _ hh => by rw [show ackB S10 (mkFr 8 5 ⟨#[]⟩ false) = S10 from by unfold ackB; rw [s11]; rfl, show ackE S10 (mkFr 8 5 ⟨#[]⟩ false) = 170 from by unfold ackE; rw [s11]; rfl] at hh; exact hh
end
end Go.Proofs.YtpfkeohaaeiaaaaGreatDoor
namespace Go.Proofs.YtpfkeohaaeiaaaaGreatDoor
open Go.RowKit
set_option maxRecDepth 100000
theorem wpList_load_row_g {P : Program} {ops : Array Oper} {rest : List Oper} {o : Oper} {a : Act} {w : World} {Q : Exit → Act → World → Prop} (hw : Region.wanted o (yielded ops a.tmps) = true) (ty : TypeId) (x : Operand) (ho : o.op = .load ty x)
    (g : Nat) (hx : a.eval x = .pointer (some ⟨g, 0, none⟩)) (t : TypeId) (cs : Array Value) (fr : Nat × Nat) (d : TypeDesc) (hg : w.heap[g]? = some (.cells cs t fr))
    (hu : P.underlying ty = some d) (hd : (match d with | .struct _ | .array _ _ => true | _ => false) = true) (hi : (P.info? ty).map (·.size) = some cs.size)
    (h : wpList P ops Q rest (a.put o.dst (.agg cs)) w) : wpList P ops Q (o :: rest) a w := by
  rw [wpList, if_pos hw]
  exact .inl (wp_load_row ty x ho g hx t cs fr d hg hu hd hi h)
theorem named {P : Program} {fid : FuncId} {args : Array Value} {w : World} {f : Fr} {o : Bool} {R : World → Prop} (h : Calls P fid args w fun e w' => e = .returned (.tuple #[f.val, .bool o]) ∧ R w') : Calls P fid args w fun e w' => ∃ V, Hid (V = .agg f.cells) ∧ e = .returned (.tuple #[V, .bool o]) ∧ R w' :=
  h.mono fun _ _ hh => ⟨_, Lib.hid rfl, hh.1, hh.2⟩
set_option maxRecDepth 100000 in
set_option maxHeartbeats 8000000 in
theorem sane_any (w : World) : Calls Tryz.prog 5 #[] w fun e w' => e = .returned (.bool true) ∧ Below w.heap.size w w' := by
  have NW := Lib.hid ((new_ok 4 w (by decide) (by decide)).mono (R' := fun e w' => e = .returned (.tuple #[.pointer (some ⟨w.heap.size, 0, none⟩), .int .i64 0]) ∧ Hid (St w w' w.heap.size (fun k => k = w.heap.size) (newB 4) [])) (fun e w' hh => ⟨hh.1, by rw [hh.2]; exact Lib.hid (st_new 4 w w (Below.refl _ w))⟩))
  have C1 := Lib.hid (fun (wx : World) (F : Nat → Prop) (fs : List (Nat × Fr)) (h : St w wx w.heap.size F _ fs) => c1 h)
  have C9 := Lib.hid (fun (wx : World) (F : Nat → Prop) (fs : List (Nat × Fr)) (h : St w wx w.heap.size F _ fs) => c9 h)
  have C10 := Lib.hid (fun (wx : World) (F : Nat → Prop) (fs : List (Nat × Fr)) (h : St w wx w.heap.size F _ fs) => c10 h)
  have C12 := Lib.hid (fun (wx : World) (F : Nat → Prop) (fs : List (Nat × Fr)) (h : St w wx w.heap.size F _ fs) => c12 h)
  have C2 := Lib.hid (fun (wx : World) (F : Nat → Prop) (fs : List (Nat × Fr)) (h : St w wx w.heap.size F _ fs) => named (c2 h))
  have C3 := Lib.hid (fun (wx : World) (F : Nat → Prop) (fs : List (Nat × Fr)) (h : St w wx w.heap.size F _ fs) => named (c3 h))
  have C4 := Lib.hid (fun (wx : World) (F : Nat → Prop) (fs : List (Nat × Fr)) (h : St w wx w.heap.size F _ fs) => named (c4 h))
  have C5 := Lib.hid (fun (wx : World) (F : Nat → Prop) (fs : List (Nat × Fr)) (h : St w wx w.heap.size F _ fs) => c5 h)
  have C6 := Lib.hid (fun (wx : World) (F : Nat → Prop) (fs : List (Nat × Fr)) (h : St w wx w.heap.size F _ fs) => named (c6 h))
  have C7 := Lib.hid (fun (wx : World) (F : Nat → Prop) (fs : List (Nat × Fr)) (h : St w wx w.heap.size F _ fs) => named (c7 h))
  have C8 := Lib.hid (fun (wx : World) (F : Nat → Prop) (fs : List (Nat × Fr)) (h : St w wx w.heap.size F _ fs) => c8 h)
  have C11 := Lib.hid (fun (wx : World) (F : Nat → Prop) (fs : List (Nat × Fr)) (h : St w wx w.heap.size F _ fs) => named (c11 h))
  have Of3 : Hid (f3.cells.all (·.oneCell') = true) := Lib.hid (one35 _ _ _ _)
  have Ofr0 : Hid (fr0.cells.all (·.oneCell') = true) := Lib.hid (one35 _ _ _ _)
  have Of5 : Hid (f5.cells.all (·.oneCell') = true) := Lib.hid (one35 _ _ _ _)
  have Of7 : Hid (f7.cells.all (·.oneCell') = true) := Lib.hid (one35 _ _ _ _)
  have Of8 : Hid (f8.cells.all (·.oneCell') = true) := Lib.hid (one35 _ _ _ _)
  have Of12 : Hid (f12.cells.all (·.oneCell') = true) := Lib.hid (one35 _ _ _ _)
  have Ef3 : Hid (f3.ty = 8 ∧ f3.off = 0 ∧ f3.s = ⟨#[97, 98, 99]⟩ ∧ f3.fin = false) := Lib.hid ⟨rfl, rfl, rfl, rfl⟩
  have Ef5 : Hid (f5.ty = 8 ∧ f5.off = 3 ∧ f5.s = ⟨#[100]⟩ ∧ f5.fin = false) := Lib.hid ⟨rfl, rfl, rfl, rfl⟩
  have Ef7 : Hid (f7.ty = 8 ∧ f7.off = 0 ∧ f7.s = ⟨#[97, 98]⟩ ∧ f7.fin = false) := Lib.hid ⟨rfl, rfl, rfl, rfl⟩
  have Ef8 : Hid (f8.ty = 8 ∧ f8.off = 2 ∧ f8.s = ⟨#[99]⟩ ∧ f8.fin = false) := Lib.hid ⟨rfl, rfl, rfl, rfl⟩
  have Ef12 : Hid (f12.ty = 8 ∧ f12.off = 4 ∧ f12.s = ⟨#[]⟩ ∧ f12.fin = true) := Lib.hid ⟨rfl, rfl, rfl, rfl⟩
  have AN := Lib.hid (fun (wx : World) => acked_nil f3 wx)
  generalize f3 = Vf3 at *
  generalize fr0 = Vfr0 at *
  generalize f5 = Vf5 at *
  generalize f7 = Vf7 at *
  generalize f8 = Vf8 at *
  generalize f12 = Vf12 at *
  generalize S1 = B1 at *
  generalize S2 = B2 at *
  generalize S4 = B4 at *
  generalize S5 = B5 at *
  generalize S6 = B6 at *
  generalize S7 = B7 at *
  generalize S8 = B8 at *
  generalize S9 = B9 at *
  generalize S10 = B10 at *
  generalize newB 4 = B0 at *
  have T1 : Hid (1 = 1) := Lib.hid rfl
  have T2 : Hid (1 = 1) := Lib.hid rfl
  have T3 : Hid (1 = 1) := Lib.hid rfl
  have T4 : Hid (1 = 1) := Lib.hid rfl
  have T5 : Hid (1 = 1) := Lib.hid rfl
  have T6 : Hid (1 = 1) := Lib.hid rfl
  have T7 : Hid (1 = 1) := Lib.hid rfl
  have T8 : Hid (1 = 1) := Lib.hid rfl
  have T9 : Hid (1 = 1) := Lib.hid rfl
  have T10 : Hid (1 = 1) := Lib.hid rfl
  have T11 : Hid (1 = 1) := Lib.hid rfl
  have T12 : Hid (1 = 1) := Lib.hid rfl
  have T13 : Hid (1 = 1) := Lib.hid rfl
  have T14 : Hid (1 = 1) := Lib.hid rfl
  have T15 : Hid (1 = 1) := Lib.hid rfl
  have T16 : Hid (1 = 1) := Lib.hid rfl
  have T17 : Hid (1 = 1) := Lib.hid rfl
  have T18 : Hid (1 = 1) := Lib.hid rfl
  have T19 : Hid (1 = 1) := Lib.hid rfl
  have T20 : Hid (1 = 1) := Lib.hid rfl
  have T21 : Hid (1 = 1) := Lib.hid rfl
  have T22 : Hid (1 = 1) := Lib.hid rfl
  have T23 : Hid (1 = 1) := Lib.hid rfl
  have T24 : Hid (1 = 1) := Lib.hid rfl
  have T25 : Hid (1 = 1) := Lib.hid rfl
  go_enter Tryz.func5, Tryz.ntmps5
  go_wp2_with (first | (go_at_call 23; have T0 := T1.out; clear T0 T1; refine NW.out.mono ?_; rintro e wn ⟨rfl, H⟩) | (go_at_call 10; have T0 := T2.out; clear T0 T2; (first | (refine (C1.out _ _ _ H.out).mono ?_)); rintro e wn ⟨rfl, FN, H2⟩; clear H; have H := Lib.hid H2; clear H2) | (go_at_call 24; have T0 := T3.out; clear T0 T3; refine (C2.out _ _ _ H.out).mono ?_; rintro e wn2 ⟨V, HV, rfl, FN, H2⟩; clear H; have H := Lib.hid H2; clear H2) | (go_at_call 24; have T0 := T4.out; clear T0 T4; refine (C3.out _ _ _ H.out).mono ?_; rintro e wn3 ⟨V, HV, rfl, FN, H2⟩; clear H; have H := Lib.hid H2; clear H2) | (go_at_call 24; have T0 := T5.out; clear T0 T5; refine (C4.out _ _ _ H.out).mono ?_; rintro e wn4 ⟨V, HV, rfl, FN, H2⟩; clear H; have H := Lib.hid H2; clear H2) | (go_at_call 24; have T0 := T6.out; clear T0 T6; refine (C6.out _ _ _ H.out).mono ?_; rintro e wn6 ⟨V, HV, rfl, FN, H2⟩; clear H; have H := Lib.hid H2; clear H2) | (go_at_call 24; have T0 := T7.out; clear T0 T7; refine (C7.out _ _ _ H.out).mono ?_; rintro e wn7 ⟨V, HV, rfl, FN, H2⟩; clear H; have H := Lib.hid H2; clear H2) | (go_at_call 24; have T0 := T8.out; clear T0 T8; refine (C11.out _ _ _ H.out).mono ?_; rintro e wn11 ⟨V, HV, rfl, FN, H2⟩; clear H; have H := Lib.hid H2; clear H2) | (go_at_call 25; have T0 := T9.out; clear T0 T9; (first | (refine (C5.out _ _ _ H.out).mono ?_)); rintro e wn ⟨rfl, FN, H2⟩; clear H; have H := Lib.hid H2; clear H2) | (go_at_call 26; have T0 := T10.out; clear T0 T10; (first | (refine (C8.out _ _ _ H.out).mono ?_)); rintro e wn ⟨rfl, FN, H2⟩; clear H; have H := Lib.hid H2; clear H2) | (go_at_call 27; have T0 := T11.out; clear T0 T11; (first | (refine (C9.out _ _ _ H.out).mono ?_)); rintro e wn ⟨rfl, FN, H2⟩; clear H; have H := Lib.hid H2; clear H2) | (go_at_call 11; have T0 := T12.out; clear T0 T12; (first | (refine (C10.out _ _ _ H.out).mono ?_)); rintro e wn ⟨rfl, FN, H2⟩; clear H; have H := Lib.hid H2; clear H2) | (have T0 := T13.out; clear T0 T13; refine wpList_store_row rfl 56 _ _ rfl _ Vf3.cells rfl HV.out 56 _ (heap_alloc_new _ _) (size56 _) rfl Of3.out ?_; rw [World.setRow_alloc_new]; have H2 := H.out.frame Vf3; clear H HV; have H := Lib.hid H2; clear H2; generalize wn2.alloc (.cells Vf3.cells 56) = wm at H ⊢) | (have T0 := T14.out; clear T0 T14; refine wpList_store_row rfl 56 _ _ rfl _ Vfr0.cells rfl HV.out 56 _ (heap_alloc_new _ _) (size56 _) rfl Ofr0.out ?_; rw [World.setRow_alloc_new]; have H2 := H.out.frame Vfr0; clear H HV; have H := Lib.hid H2; clear H2; generalize wn3.alloc (.cells Vfr0.cells 56) = wm at H ⊢) | (have T0 := T15.out; clear T0 T15; refine wpList_store_row rfl 56 _ _ rfl _ Vf5.cells rfl HV.out 56 _ (heap_alloc_new _ _) (size56 _) rfl Of5.out ?_; rw [World.setRow_alloc_new]; have H2 := H.out.frame Vf5; clear H HV; have H := Lib.hid H2; clear H2; generalize wn4.alloc (.cells Vf5.cells 56) = wm at H ⊢) | (have T0 := T16.out; clear T0 T16; refine wpList_store_row rfl 56 _ _ rfl _ Vf7.cells rfl HV.out 56 _ (heap_alloc_new _ _) (size56 _) rfl Of7.out ?_; rw [World.setRow_alloc_new]; have H2 := H.out.frame Vf7; clear H HV; have H := Lib.hid H2; clear H2; generalize wn6.alloc (.cells Vf7.cells 56) = wm at H ⊢) | (have T0 := T17.out; clear T0 T17; refine wpList_store_row rfl 56 _ _ rfl _ Vf8.cells rfl HV.out 56 _ (heap_alloc_new _ _) (size56 _) rfl Of8.out ?_; rw [World.setRow_alloc_new]; have H2 := H.out.frame Vf8; clear H HV; have H := Lib.hid H2; clear H2; generalize wn7.alloc (.cells Vf8.cells 56) = wm at H ⊢) | (have T0 := T18.out; clear T0 T18; refine wpList_store_row rfl 56 _ _ rfl _ Vf12.cells rfl HV.out 56 _ (heap_alloc_new _ _) (size56 _) rfl Of12.out ?_; rw [World.setRow_alloc_new]; have H2 := H.out.frame Vf12; clear H HV; have H := Lib.hid H2; clear H2; generalize wn11.alloc (.cells Vf12.cells 56) = wm at H ⊢) | (have T0 := T19.out; clear T0 T19; refine wpList_load_row rfl 56 _ rfl wn2.heap.size rfl 56 Vf3.cells (0, 0) _ (H.out.far (wn2.heap.size, Vf3) (by simp)).1 Tryz.underlying56 rfl (size56 Vf3) ?_) | (have T0 := T20.out; clear T0 T20; refine wpList_load_row rfl 56 _ rfl wn6.heap.size rfl 56 Vf7.cells (0, 0) _ (H.out.far (wn6.heap.size, Vf7) (by simp)).1 Tryz.underlying56 rfl (size56 Vf7) ?_) | (go_at_call 23; have T0 := T21.out; clear T0 T21; refine (new_no 0 _ (by decide)).mono ?_; rintro e wk ⟨rfl, rfl⟩; have Bf3 := Boxed.of (H.out.far (wn2.heap.size, Vf3) (by simp)).1; obtain ⟨yf30, yf32, yf33, yf34⟩ := Ef3.out; obtain ⟨kf30, kf32, kf33, kf34⟩ := Bf3; rw [yf30] at kf30; rw [yf32] at kf32; rw [yf33] at kf33; rw [yf34] at kf34; clear yf30 yf32 yf33 yf34; have Bf5 := Boxed.of (H.out.far (wn4.heap.size, Vf5) (by simp)).1; obtain ⟨yf50, yf52, yf53, yf54⟩ := Ef5.out; obtain ⟨kf50, kf52, kf53, kf54⟩ := Bf5; rw [yf50] at kf50; rw [yf52] at kf52; rw [yf53] at kf53; rw [yf54] at kf54; clear yf50 yf52 yf53 yf54; have Bf7 := Boxed.of (H.out.far (wn6.heap.size, Vf7) (by simp)).1; obtain ⟨yf70, yf72, yf73, yf74⟩ := Ef7.out; obtain ⟨kf70, kf72, kf73, kf74⟩ := Bf7; rw [yf70] at kf70; rw [yf72] at kf72; rw [yf73] at kf73; rw [yf74] at kf74; clear yf70 yf72 yf73 yf74; have Bf8 := Boxed.of (H.out.far (wn7.heap.size, Vf8) (by simp)).1; obtain ⟨yf80, yf82, yf83, yf84⟩ := Ef8.out; obtain ⟨kf80, kf82, kf83, kf84⟩ := Bf8; rw [yf80] at kf80; rw [yf82] at kf82; rw [yf83] at kf83; rw [yf84] at kf84; clear yf80 yf82 yf83 yf84; have Bf12 := Boxed.of (H.out.far (wn11.heap.size, Vf12) (by simp)).1; obtain ⟨yf120, yf122, yf123, yf124⟩ := Ef12.out; obtain ⟨kf120, kf122, kf123, kf124⟩ := Bf12; rw [yf120] at kf120; rw [yf122] at kf122; rw [yf123] at kf123; rw [yf124] at kf124; clear yf120 yf122 yf123 yf124) | (have T0 := T25.out; clear T0 T25; refine wpList_load_row_g rfl 56 _ rfl wn2.heap.size rfl 56 Vf3.cells (0, 0) _ (H.out.far (wn2.heap.size, Vf3) (by simp)).1 Tryz.underlying56 rfl (size56 Vf3) ?_) | (go_at_call 26; have T0 := T22.out; clear T0 T22; refine (AN.out _).mono ?_; rintro e wp ⟨rfl, hB⟩; have H2 := H.out.same hB; clear H; have H := Lib.hid H2; clear H2 hB) | (go_at_call 10; have T0 := T23.out; clear T0 T23; refine (write_nil _ _ (by decide)).mono ?_; rintro e wq ⟨rfl, hB⟩; have H2 := H.out.same hB; clear H; have H := Lib.hid H2; clear H2 hB) | (go_at_call 26; have T0 := T24.out; clear T0 T24; refine (C12.out _ _ _ H.out).mono ?_; rintro e wr ⟨rfl, FN, H2⟩; clear H; have H := Lib.hid H2; clear H2))
  go_ret
  exact ⟨rfl, H.out.below⟩
end Go.Proofs.YtpfkeohaaeiaaaaGreatDoor
/- Arguments that are slices of structs of one-cell fields, opened to their cells. The first theorem is the guide's lemma on such slices, laid here as it is meant to be. -/
namespace Go.Proofs.YtpfkeohaaeiaaaaGreatDoor
open Go.ChangeShapes Go.WideShapes Go.Deep Go.RowKit
section
variable {H : Type} {enc : TypeId × Value → H} {P : Program} {w : World} {base : Nat} {spare : Nat → Bool} {held : Bool}
end

end Go.Proofs.YtpfkeohaaeiaaaaGreatDoor
