/- Law 25: keys' Expand. -/
import Derived.Test.YtieiplalnekmkaaP
namespace Go.Proofs.Ytieiplalnekmkaa
open Go.RowKit
set_option maxHeartbeats 1000000 in
theorem part_ok (s l : ByteArray) (S E : Nat) (w : World) (hs : s.size = 16) (hl : l.size ≤ 32) (hS : w.cell? ⟨S, 0, none⟩ = some (.string s)) :
    Calls Try.prog 30 #[.string l, .pointer (some ⟨S, 0, none⟩), .pointer (some ⟨E, 0, none⟩)] w fun e w' => e = .returned (.string (dr s l)) ∧ Below w.heap.size w w' := by
  have D := Lib.hid (fun g w => dv_any s l g w hs hl)
  have BW := Lib.hid ((Below.refl w.heap.size w).alloc (Nat.le_refl _) (.cells #[.string l] 9))
  have C0 := Lib.hid (at_whole (heap_alloc_new w (.cells #[.string l] 9)) 0 rfl)
  clear hs hl
  go_enter Try.func30, Try.ntmps30
  go_wp2_with fail
  refine (D.out w.heap.size _ C0.out).mono ?_
  rintro e w1 ⟨rfl, hb1⟩
  have HB1 := Lib.hid (btrans BW.out hb1)
  clear hb1
  go_wp2
  go_ret
  exact ⟨rfl, HB1.out⟩
set_option maxHeartbeats 1000000 in
theorem part_bad (s l : ByteArray) (S E : Nat) (x : Value) (w : World) (hs : s.size ≠ 16) (hS : w.cell? ⟨S, 0, none⟩ = some (.string s)) (hE : w.heap[E]? = some (.cells #[x] 33 (0, 0))) :
    Calls Try.prog 30 #[.string l, .pointer (some ⟨S, 0, none⟩), .pointer (some ⟨E, 0, none⟩)] w fun e w' => e = .returned (.string ⟨#[]⟩) ∧ Blk E #[.int .i64 50] 33 w w' := by
  have D := Lib.hid (fun v w => dv_bad s v w hs)
  have hlE : E < w.heap.size := heap_lt hE
  have BE := Lib.hid (((Blk.start hE).set 0 (.int .i64 50)).alloc (.cells #[.string l] 9))
  have c0 : w.cell? ⟨E, 0, none⟩ = some x := at_whole hE 0 rfl
  have f0 := frozen_whole hE 0
  clear hs hE
  go_enter Try.func30, Try.ntmps30
  go_wp2_with (go_at_call 31; refine (D.out _ _).mono ?_; rintro e w1 ⟨rfl, rfl⟩)
  go_ret
  exact ⟨rfl, BE.out⟩
theorem set4 {n b : Nat} {w w' : World} (h : Below n w w') (hb : n ≤ b) (x0 x1 x2 x3 : Value) :
    Below n w ((((w'.setCell ⟨b, 0, none⟩ x0).setCell ⟨b, 1, none⟩ x1).setCell ⟨b, 2, none⟩ x2).setCell ⟨b, 3, none⟩ x3) :=
  (((h.setCell (p := ⟨b, 0, none⟩) hb _).setCell (p := ⟨b, 1, none⟩) hb _).setCell (p := ⟨b, 2, none⟩) hb _).setCell (p := ⟨b, 3, none⟩) hb _
structure Ky where (k i m h : ByteArray)
def Ky.cells (x : Ky) : Array Value := #[.string x.k, .string x.i, .string x.m, .string x.h]
def Ky.val (x : Ky) : Value := .agg x.cells
def exF (s : ByteArray) : Ky := ⟨dr s ⟨#[107, 101, 121]⟩, (dr s ⟨#[105, 118]⟩).extract 0 8, dr s ⟨#[109, 97, 99]⟩, dr s ⟨#[104, 112]⟩⟩
set_option maxRecDepth 100000 in
set_option maxHeartbeats 4000000 in
theorem ex_any (s : ByteArray) (w : World) (hs : s.size = 16) :
    Calls Try.prog 18 #[.string s] w fun e w' => e = .returned (.tuple #[(exF s).val, .int .i64 0]) ∧ Below w.heap.size w w' := by
  have PK := Lib.hid (fun S E w hS => part_ok s ⟨#[107, 101, 121]⟩ S E w hs (by decide) hS)
  have PI := Lib.hid (fun S E w hS => part_ok s ⟨#[105, 118]⟩ S E w hs (by decide) hS)
  have PM := Lib.hid (fun S E w hS => part_ok s ⟨#[109, 97, 99]⟩ S E w hs (by decide) hS)
  have PH := Lib.hid (fun S E w hS => part_ok s ⟨#[104, 112]⟩ S E w hs (by decide) hS)
  have F := Lib.hid (box3 w (.cells #[.string s] 9) (.cells #[.string ⟨#[]⟩, .string ⟨#[]⟩, .string ⟨#[]⟩, .string ⟨#[]⟩] 42) (.cells #[.int .i64 0] 33))
  have hsz := dr_size s ⟨#[105, 118]⟩
  have hi8 : (8 : Int) ≤ ((dr s ⟨#[105, 118]⟩).size : Int) := by omega
  have hi9 : 8 ≤ (dr s ⟨#[105, 118]⟩).size := by omega
  unfold exF Ky.val Ky.cells
  simp only
  generalize dr s ⟨#[107, 101, 121]⟩ = a at *
  generalize dr s ⟨#[105, 118]⟩ = b at *
  generalize dr s ⟨#[109, 97, 99]⟩ = c at *
  generalize dr s ⟨#[104, 112]⟩ = d at *
  clear hs hsz
  go_enter Try.func18, Try.ntmps18
  go_wp2_with fail
  generalize (((w.alloc (Obj.cells #[Value.string s] 9)).alloc (Obj.cells #[.string ⟨#[]⟩, .string ⟨#[]⟩, .string ⟨#[]⟩, .string ⟨#[]⟩] 42)).alloc (Obj.cells #[.int .i64 0] 33)) = V at F ⊢
  refine (PK.out _ _ _ (at_whole F.out.1 0 rfl)).mono ?_
  rintro e w1 ⟨rfl, hb1⟩
  have HB1 := Lib.hid hb1
  clear hb1
  go_wp2_with fail
  refine (PI.out _ _ _ (at_whole (heap_below HB1.out F.out.1) 0 rfl)).mono ?_
  rintro e w2 ⟨rfl, hb2⟩
  have HB2 := Lib.hid (btrans HB1.out hb2)
  clear hb2
  go_wp2_with fail
  refine (PM.out _ _ _ (at_whole (heap_below HB2.out F.out.1) 0 rfl)).mono ?_
  rintro e w3 ⟨rfl, hb3⟩
  have HB3 := Lib.hid (btrans HB2.out hb3)
  clear hb3
  go_wp2_with fail
  refine (PH.out _ _ _ (at_whole (heap_below HB3.out F.out.1) 0 rfl)).mono ?_
  rintro e w4 ⟨rfl, hb4⟩
  have HB4 := Lib.hid (btrans HB3.out hb4)
  have hE := heap_below HB4.out F.out.2.2.1
  have hR := heap_below HB4.out F.out.2.1
  have e0 := at_whole hE 0 rfl
  have r0 := at_whole hR 0 rfl
  have r1 := at_whole hR 1 rfl
  have r2 := at_whole hR 2 rfl
  have r3 := at_whole hR 3 rfl
  have fr0 := frozen_whole hR 0
  have fr1 := frozen_whole hR 1
  have fr2 := frozen_whole hR 2
  have fr3 := frozen_whole hR 3
  have ne1 : w4.heap.size ≠ w.heap.size + 1 := by have := heap_lt hR; omega
  have ne2 : w4.heap.size ≠ w.heap.size + 1 + 1 := by have := heap_lt hE; omega
  have l1 : w.heap.size + 1 < w4.heap.size := heap_lt hR
  have l2 : w.heap.size + 1 + 1 < w4.heap.size := heap_lt hE
  have HR := Lib.hid hR
  simp only [List.getElem_toArray, List.getElem_cons_zero, List.getElem_cons_succ] at e0 r0 r1 r2 r3
  clear hb4 hE hR PK PI PM PH HB1 HB2 HB3
  go_wp2
  have BV : Hid (Below w.heap.size w w4) := Lib.hid (F.out.2.2.2.1.trans (HB4.out.mono (show w.heap.size ≤ V.heap.size by have := F.out.2.2.2.2; omega)))
  have hq := heap_set (.string d) (i := 3) (heap_set (.string c) (i := 2) (heap_set (.string (b.extract 0 8)) (i := 1) (heap_set (.string a) (i := 0) HR.out)))
  have hq0 := cell_alloc_l (.cells #[.string a, .string (b.extract 0 8), .string c, .string d] 42) (at_whole hq 0 rfl)
  have hq1 := cell_alloc_l (.cells #[.string a, .string (b.extract 0 8), .string c, .string d] 42) (at_whole hq 1 rfl)
  have hq2 := cell_alloc_l (.cells #[.string a, .string (b.extract 0 8), .string c, .string d] 42) (at_whole hq 2 rfl)
  have hq3 := cell_alloc_l (.cells #[.string a, .string (b.extract 0 8), .string c, .string d] 42) (at_whole hq 3 rfl)
  have hB := (set4 BV.out (Nat.le_succ w.heap.size) (.string a) (.string (b.extract 0 8)) (.string c) (.string d)).alloc (by simp; have := BV.out.size; omega) (.cells #[.string a, .string (b.extract 0 8), .string c, .string d] 42)
  simp only [List.setIfInBounds_toArray, List.set_cons_zero, List.set_cons_succ, List.getElem_toArray, List.getElem_cons_zero, List.getElem_cons_succ] at hq0 hq1 hq2 hq3
  clear hq
  generalize ((((w4.setCell ⟨w.heap.size + 1, 0, none⟩ (.string a)).setCell ⟨w.heap.size + 1, 1, none⟩ (.string (b.extract 0 8))).setCell ⟨w.heap.size + 1, 2, none⟩ (.string c)).setCell ⟨w.heap.size + 1, 3, none⟩ (.string d)).alloc (.cells #[.string a, .string (b.extract 0 8), .string c, .string d] 42) = X at *
  refine bodyPost_ret (v := .tuple #[.agg #[.string a, .string (b.extract 0 8), .string c, .string d], .int .i64 0]) (by simp [results, Try.results18, go_sem, hq0, hq1, hq2, hq3]) rfl ⟨rfl, hB⟩
set_option maxRecDepth 100000 in
set_option maxHeartbeats 4000000 in
theorem ex_bad (s : ByteArray) (w : World) (hs : s.size ≠ 16) :
    Calls Try.prog 18 #[.string s] w fun e w' => e = .returned (.tuple #[.agg #[.string ⟨#[]⟩, .string ⟨#[]⟩, .string ⟨#[]⟩, .string ⟨#[]⟩], .int .i64 50]) ∧ Below w.heap.size w w' := by
  have PB := Lib.hid (fun l S E x w hS hE => part_bad s l S E x w hs hS hE)
  have F := Lib.hid (box3 w (.cells #[.string s] 9) (.cells #[.string ⟨#[]⟩, .string ⟨#[]⟩, .string ⟨#[]⟩, .string ⟨#[]⟩] 42) (.cells #[.int .i64 0] 33))
  clear hs
  go_enter Try.func18, Try.ntmps18
  go_wp2_with fail
  generalize (((w.alloc (Obj.cells #[Value.string s] 9)).alloc (Obj.cells #[.string ⟨#[]⟩, .string ⟨#[]⟩, .string ⟨#[]⟩, .string ⟨#[]⟩] 42)).alloc (Obj.cells #[.int .i64 0] 33)) = V at F ⊢
  have n0 : w.heap.size ≠ w.heap.size + 1 + 1 := by omega
  have n1 : w.heap.size + 1 ≠ w.heap.size + 1 + 1 := by omega
  refine (PB.out _ _ _ _ _ (at_whole F.out.1 0 rfl) F.out.2.2.1).mono ?_
  rintro e w1 ⟨rfl, hb1⟩
  have HB1 := Lib.hid hb1
  clear hb1
  go_wp2_with fail
  refine (PB.out _ _ _ _ _ (at_whole (heap_grown HB1.out.2 F.out.1 n0) 0 rfl) HB1.out.1).mono ?_
  rintro e w2 ⟨rfl, hb2⟩
  have HB2 := Lib.hid (HB1.out.trans hb2)
  clear hb2
  go_wp2_with fail
  refine (PB.out _ _ _ _ _ (at_whole (heap_grown HB2.out.2 F.out.1 n0) 0 rfl) HB2.out.1).mono ?_
  rintro e w3 ⟨rfl, hb3⟩
  have HB3 := Lib.hid (HB2.out.trans hb3)
  clear hb3
  go_wp2_with fail
  refine (PB.out _ _ _ _ _ (at_whole (heap_grown HB3.out.2 F.out.1 n0) 0 rfl) HB3.out.1).mono ?_
  rintro e w4 ⟨rfl, hb4⟩
  have HB4 := Lib.hid (HB3.out.trans hb4)
  have hE := HB4.out.1
  have hR := heap_grown HB4.out.2 F.out.2.1 n1
  have e0 := at_whole hE 0 rfl
  have r0 := at_whole hR 0 rfl
  have r1 := at_whole hR 1 rfl
  have r2 := at_whole hR 2 rfl
  have r3 := at_whole hR 3 rfl
  have fr0 := frozen_whole hR 0
  have fr1 := frozen_whole hR 1
  have fr2 := frozen_whole hR 2
  have fr3 := frozen_whole hR 3
  have l1 : w.heap.size + 1 < w4.heap.size := heap_lt hR
  have l2 : w.heap.size + 1 + 1 < w4.heap.size := heap_lt hE
  have HR := Lib.hid hR
  simp only [List.getElem_toArray, List.getElem_cons_zero, List.getElem_cons_succ] at e0 r0 r1 r2 r3
  have BV : Hid (Below w.heap.size w w4) := Lib.hid (F.out.2.2.2.1.grown HB4.out.2 F.out.2.2.2.1.size (fun k e => by cases e; omega))
  clear hb4 hE hR PB HB1 HB2 HB3
  go_wp2
  go_region
  all_goals
    go_wp2
    have hq := heap_set (.string ⟨#[]⟩) (i := 3) (heap_set (.string ⟨#[]⟩) (i := 2) (heap_set (.string ⟨#[]⟩) (i := 1) (heap_set (.string ⟨#[]⟩) (i := 0) HR.out)))
    have hq0 := cell_alloc_l (.cells #[.string ⟨#[]⟩, .string ⟨#[]⟩, .string ⟨#[]⟩, .string ⟨#[]⟩] 42) (at_whole hq 0 rfl)
    have hq1 := cell_alloc_l (.cells #[.string ⟨#[]⟩, .string ⟨#[]⟩, .string ⟨#[]⟩, .string ⟨#[]⟩] 42) (at_whole hq 1 rfl)
    have hq2 := cell_alloc_l (.cells #[.string ⟨#[]⟩, .string ⟨#[]⟩, .string ⟨#[]⟩, .string ⟨#[]⟩] 42) (at_whole hq 2 rfl)
    have hq3 := cell_alloc_l (.cells #[.string ⟨#[]⟩, .string ⟨#[]⟩, .string ⟨#[]⟩, .string ⟨#[]⟩] 42) (at_whole hq 3 rfl)
    have hB := ((set4 BV.out (Nat.le_succ w.heap.size) (.string ⟨#[]⟩) (.string ⟨#[]⟩) (.string ⟨#[]⟩) (.string ⟨#[]⟩)).alloc (by simp; have := BV.out.size; omega) (.cells #[.string ⟨#[]⟩, .string ⟨#[]⟩, .string ⟨#[]⟩, .string ⟨#[]⟩] 42)).drew
    simp only [List.setIfInBounds_toArray, List.set_cons_zero, List.set_cons_succ, List.getElem_toArray, List.getElem_cons_zero, List.getElem_cons_succ] at hq0 hq1 hq2 hq3
    clear hq
    generalize ((((w4.setCell ⟨w.heap.size + 1, 0, none⟩ (.string ⟨#[]⟩)).setCell ⟨w.heap.size + 1, 1, none⟩ (.string ⟨#[]⟩)).setCell ⟨w.heap.size + 1, 2, none⟩ (.string ⟨#[]⟩)).setCell ⟨w.heap.size + 1, 3, none⟩ (.string ⟨#[]⟩)).alloc (.cells #[.string ⟨#[]⟩, .string ⟨#[]⟩, .string ⟨#[]⟩, .string ⟨#[]⟩] 42) = X at *
    refine bodyPost_ret (v := .tuple #[.agg #[.string ⟨#[]⟩, .string ⟨#[]⟩, .string ⟨#[]⟩, .string ⟨#[]⟩], .int .i64 50]) (by simp [results, Try.results18, go_sem, hq0, hq1, hq2, hq3]) rfl ⟨rfl, hB⟩
end Go.Proofs.Ytieiplalnekmkaa
