/- Law 25: a Phases as plain data; advance, renew, expand. -/
import Derived.Test.YtieiplalnekmkaaR
namespace Go.Proofs.Ytieiplalnekmkaa
open Go.RowKit
structure Ph where
  (ss sh : ByteArray) (sg sf : Int) (sc : Bool) (rs rh : ByteArray) (rg a0 a1 b0 b1 lg : Int) (old : ByteArray) (kept : Bool) (unt : Int)
def Ph.cells (X : Ph) : Array Value := #[.string X.ss, .string X.sh, .int .i64 X.sg, .int .i64 X.sf, .bool X.sc, .string X.rs, .string X.rh, .int .i64 X.rg, .int .i64 X.a0, .int .i64 X.a1, .int .i64 X.b0, .int .i64 X.b1, .int .i64 X.lg, .string X.old, .bool X.kept, .int .i64 X.unt]
def nx (s : ByteArray) : ByteArray := dr s ⟨#[110, 101, 120, 116]⟩
theorem nx_size (s : ByteArray) : (nx s).size = 16 := dr_size _ _
set_option maxRecDepth 100000 in
set_option maxHeartbeats 2000000 in
theorem adv_any (b o : Nat) (s : ByteArray) (g : Int) (T : TypeId) (cs : Array Value) (w : World) (hs : s.size = 16) (hg0 : 0 ≤ g) (hg1 : g ≤ 1000000)
    (hb : w.heap[b]? = some (.cells cs T (0, 0))) (h0 : cs[o]? = some (.string s)) (h2 : cs[o + 2]? = some (.int .i64 g)) :
    Calls Try.prog 27 #[.pointer (some ⟨b, o, none⟩)] w fun e w' => (∃ v, e = .returned v) ∧ Blk b ((cs.setIfInBounds o (.string (nx s))).setIfInBounds (o + 2) (.int .i64 (g + 1))) T w w' := by
  have NX := Lib.hid (fun w => next_any s w hs)
  have c0 := at_whole hb o h0
  unfold nx
  generalize dr s ⟨#[110, 101, 120, 116]⟩ = N at *
  have HB := Lib.hid (And.intro hb (And.intro h0 h2))
  clear hb h0 h2 hs
  go_enter Try.func27, Try.ntmps27
  go_wp2_with fail
  refine (NX.out _).mono ?_
  rintro e w1 ⟨rfl, hb1⟩
  have hB := (Blk.start HB.out.1).below hb1
  have c0' := at_whole hB.1 o HB.out.2.1
  have c2' := at_whole hB.1 (o + 2) HB.out.2.2
  have f0 := frozen_whole hB.1 o
  have f2 := frozen_whole hB.1 (o + 2)
  have H1 := Lib.hid hB
  have hne : o ≠ o + 2 := by omega
  have hw : IntKind.i64.wrap (g + 1) = g + 1 := IntWalk.i64_in _ (by omega)
  clear hb1 hB c0
  go_wp2
  go_end0
  exact ⟨⟨_, rfl⟩, (H1.out.set o _).set (o + 2) _⟩
/-- the keys of a secret, with a given header protection key -/
def kyF (hp s : ByteArray) : Ky := { exF s with h := hp }
set_option maxRecDepth 100000 in
set_option maxHeartbeats 4000000 in
theorem exp_any (sec hp s : ByteArray) (g : Int) (w : World) (hs : s.size = 16) :
    Calls Try.prog 28 #[.agg #[.string sec, .string hp, .int .i64 g], .string s] w fun e w' => e = .returned (kyF hp s).val ∧ Below w.heap.size w w' := by
  have EX := Lib.hid (fun w => ex_any s w hs)
  unfold kyF Ky.val Ky.cells at *
  simp only at *
  generalize exF s = y at *
  obtain ⟨yk, yi, ym, yh⟩ := y
  simp only at *
  have F := Lib.hid (box2 w (.cells #[.string sec, .string hp, .int .i64 g] 57) (.cells #[.string ⟨#[]⟩, .string ⟨#[]⟩, .string ⟨#[]⟩, .string ⟨#[]⟩] 42))
  clear hs
  go_enter Try.func28, Try.ntmps28
  go_wp2_with fail
  generalize (w.alloc (Obj.cells #[.string sec, .string hp, .int .i64 g] 57)).alloc (.cells #[.string ⟨#[]⟩, .string ⟨#[]⟩, .string ⟨#[]⟩, .string ⟨#[]⟩] 42) = V at F ⊢
  refine (EX.out _).mono ?_
  rintro e w1 ⟨rfl, hb1⟩
  have h0 := heap_below hb1 F.out.1
  have hR := heap_below hb1 F.out.2.1
  have d1 : w1.cell? ⟨w.heap.size, 1, none⟩ = some (.string hp) := at_whole h0 1 rfl
  have r0 : w1.cell? ⟨w.heap.size + 1, 0, none⟩ = some (.string ⟨#[]⟩) := at_whole hR 0 rfl
  have r1 : w1.cell? ⟨w.heap.size + 1, 1, none⟩ = some (.string ⟨#[]⟩) := at_whole hR 1 rfl
  have r2 : w1.cell? ⟨w.heap.size + 1, 2, none⟩ = some (.string ⟨#[]⟩) := at_whole hR 2 rfl
  have r3 : w1.cell? ⟨w.heap.size + 1, 3, none⟩ = some (.string ⟨#[]⟩) := at_whole hR 3 rfl
  have f0 := frozen_whole hR 0
  have f1 := frozen_whole hR 1
  have f2 := frozen_whole hR 2
  have f3 := frozen_whole hR 3
  have l0 : w.heap.size < w1.heap.size := heap_lt h0
  have l1 : w.heap.size + 1 < w1.heap.size := heap_lt hR
  have BV := Lib.hid (F.out.2.2.1.trans (hb1.mono (show w.heap.size ≤ V.heap.size by have := F.out.2.2.2; omega)))
  have HR := Lib.hid hR
  clear hb1 h0 hR
  go_wp2
  have hq := heap_set (.string hp) (i := 3) (heap_set (.string ym) (i := 2) (heap_set (.string yi) (i := 1) (heap_set (.string yk) (i := 0) HR.out)))
  have hq0 := cell_alloc_l (.cells #[.string yk, .string yi, .string ym, .string hp] 42) (at_whole hq 0 rfl)
  have hq1 := cell_alloc_l (.cells #[.string yk, .string yi, .string ym, .string hp] 42) (at_whole hq 1 rfl)
  have hq2 := cell_alloc_l (.cells #[.string yk, .string yi, .string ym, .string hp] 42) (at_whole hq 2 rfl)
  have hq3 := cell_alloc_l (.cells #[.string yk, .string yi, .string ym, .string hp] 42) (at_whole hq 3 rfl)
  have hB := (set4 BV.out (Nat.le_succ w.heap.size) (.string yk) (.string yi) (.string ym) (.string hp)).alloc (by simp; have := BV.out.size; omega) (.cells #[.string yk, .string yi, .string ym, .string hp] 42)
  simp only [List.setIfInBounds_toArray, List.set_cons_zero, List.set_cons_succ, List.getElem_toArray, List.getElem_cons_zero, List.getElem_cons_succ] at hq0 hq1 hq2 hq3
  clear hq
  generalize ((((w1.setCell ⟨w.heap.size + 1, 0, none⟩ (.string yk)).setCell ⟨w.heap.size + 1, 1, none⟩ (.string yi)).setCell ⟨w.heap.size + 1, 2, none⟩ (.string ym)).setCell ⟨w.heap.size + 1, 3, none⟩ (.string hp)).alloc (.cells #[.string yk, .string yi, .string ym, .string hp] 42) = X at *
  refine bodyPost_ret (v := .agg #[.string yk, .string yi, .string ym, .string hp]) (by simp [results, Try.results28, go_sem, hq0, hq1, hq2, hq3]) rfl ⟨rfl, hB⟩
set_option maxRecDepth 100000 in
set_option maxHeartbeats 2000000 in
theorem renew_any (b : Nat) (X : Ph) (w : World) (hs : X.ss.size = 16) (hg0 : 0 ≤ X.sg) (hg1 : X.sg ≤ 1000000) (hb : w.heap[b]? = some (.cells X.cells 66 (0, 0))) :
    Calls Try.prog 22 #[.pointer (some ⟨b, 0, none⟩)] w fun e w' => (∃ v, e = .returned v) ∧ Blk b ({ X with ss := nx X.ss, sg := X.sg + 1, sf := -1, sc := false } : Ph).cells 66 w w' := by
  have AD := Lib.hid (adv_any b 0 X.ss X.sg 66 X.cells w hs hg0 hg1 hb rfl rfl)
  have c0 : w.cell? ⟨b, 0, none⟩ = some (.string X.ss) := at_whole hb 0 rfl
  clear hs hg0 hg1 hb
  go_enter Try.func22, Try.ntmps22
  go_wp2_with fail
  refine AD.out.mono ?_
  rintro e w1 ⟨⟨v, rfl⟩, hb1⟩
  have f3 := frozen_whole hb1.1 3
  have f4 := frozen_whole hb1.1 4
  have c0' := at_whole hb1.1 0 rfl
  have c3 := at_whole hb1.1 3 rfl
  have c4 := at_whole hb1.1 4 rfl
  have H1 := Lib.hid hb1
  clear hb1 c0
  go_wp2
  go_end0
  exact ⟨⟨_, rfl⟩, ((H1.out.set 3 _).set 4 _).cast rfl⟩
end Go.Proofs.Ytieiplalnekmkaa
