/- Law 20: params' Encode. -/
import Derived.Test.YtddfikijehmoiaaDoorI
namespace Go.Proofs.YtddfikijehmoiaaDoor
open Go.RowKit Go.Shelf
attribute [local go_sem] Oper.semAt_some
def pvals (p : Pm) : List Int := (items p).map (·.2)
theorem pvals_eq (p : Pm) : pvals p = [p.a, p.b, p.c, p.d, p.e, p.f] := rfl
theorem cls_small (n : Int) (h0 : 0 ≤ n) (h1 : n ≤ 1073741824) : 0 ≤ cls n := by
  unfold cls
  rw [if_neg (by omega)]
  (repeat' split) <;> omega
theorem item_cls {p : Pm} (hv : vldP p = true) (x : Fd × Int) (hx : x ∈ items p) : 0 ≤ cls x.2 := by
  have := List.all_eq_true.1 hv x hx
  simp [okI] at this
  simp [items, fTab, Pm.vals] at hx
  rcases hx with rfl | rfl | rfl | rfl | rfl | rfl <;> exact cls_small _ (by simp at this ⊢; omega) (by simp at this ⊢; omega)
theorem pvals_cls {p : Pm} (hv : vldP p = true) : ∀ n ∈ pvals p, 0 ≤ cls n := by
  intro n hn
  obtain ⟨x, hx, rfl⟩ := List.mem_map.1 hn
  exact item_cls hv x hx
theorem wid_le (n : Int) : wid n ≤ 8 := by
  have hc : cls n = -1 ∨ cls n = 0 ∨ cls n = 1 ∨ cls n = 2 ∨ cls n = 3 := by unfold cls; (repeat' split) <;> simp
  unfold wid
  rcases hc with h | h | h | h | h <;> rw [h] <;> decide
theorem flat_le : ∀ ns : List Int, (flat ns).length ≤ 8 * ns.length := by
  intro ns
  induction ns with
  | nil => simp [flat]
  | cons n ns ih =>
    have h1 := encV_len n
    have h2 := wid_le n
    simp only [flat, List.flatMap_cons, List.length_append, List.length_cons] at ih ⊢
    omega
theorem str_app (l m : List Int) : strOfNums l ++ strOfNums m = strOfNums (l ++ m) := by
  apply ByteArray.ext
  apply Array.toList_inj.1
  simp [strOfNums]
theorem box6 {w : World} {b : Nat} {p : Pm} {T : TypeId} (h : w.heap[b]? = some (.cells p.cells T (0, 0))) :
    w.cell? ⟨b, 0, none⟩ = some (.int .i64 p.a) ∧ w.cell? ⟨b, 1, none⟩ = some (.int .i64 p.b) ∧ w.cell? ⟨b, 2, none⟩ = some (.int .i64 p.c) ∧ w.cell? ⟨b, 3, none⟩ = some (.int .i64 p.d) ∧ w.cell? ⟨b, 4, none⟩ = some (.int .i64 p.e) ∧ w.cell? ⟨b, 5, none⟩ = some (.int .i64 p.f) := by
  refine ⟨?_, ?_, ?_, ?_, ?_, ?_⟩ <;> rw [cell_whole h] <;> rfl
def nums {p : Pm} (l : List {x : Fd × Int // x ∈ items p}) : List Int := l.map (·.1.2)
theorem nums_snoc {p : Pm} (l : List {x : Fd × Int // x ∈ items p}) (x) : nums (l ++ [x]) = nums l ++ [x.1.2] := by simp [nums]
theorem nums_all {p : Pm} (l : List {x : Fd × Int // x ∈ items p}) (h : l.map (·.1) = items p) : nums l = pvals p := by
  have := congrArg (fun z => z.map (·.2)) h
  rw [List.map_map] at this
  exact this
theorem encode_no (p : Pm) (a : Addr) (w : World) (h0 : w.cell? ⟨0, 0, none⟩ = some (.iface 98 (.pointer (some a)))) (h : vldP p = false) :
    Calls Tryd.prog 10 #[.agg p.cells] w fun e w' => e = .returned (.tuple #[.string ⟨#[]⟩, .int .i64 200]) ∧ Below w.heap.size w w' := by
  have h00 : 0 < w.heap.size := World.block_lt_of_cell? _ _ h0
  have CK := Lib.hid (check_any p a (w.alloc (.cells p.cells 23)) (cell_alloc_l _ h0))
  have HB : Hid (Below w.heap.size w (w.alloc (.cells p.cells 23))) := Lib.hid ((Below.refl _ w).alloc (Nat.le_refl _) _)
  have hb1 := fun w' (h : Below (w.alloc (.cells p.cells 23)).heap.size (w.alloc (.cells p.cells 23)) w') => HB.out.trans (h.mono (by simp))
  have ER := Lib.hid (fun w' (h : Below (w.alloc (.cells p.cells 23)).heap.size (w.alloc (.cells p.cells 23)) w') => errno_err a w' ((h.cell (p := ⟨0, 0, none⟩) (by simp)).trans (cell_alloc_l _ h0)))
  rw [chk_no h] at CK
  clear h h0
  unfold Pm.cells at *
  go_enter Tryd.func10, Tryd.ntmps10
  go_wp2_with (first | (go_at_call 17; refine CK.out.mono ?_; rintro e w' ⟨rfl, hb⟩) | (go_at_call 18; refine (ER.out _ hb).mono ?_; rintro e w' ⟨rfl, rfl⟩))
  go_ret2
  exact ⟨rfl, hb1 _ hb⟩
set_option maxRecDepth 100000 in
set_option maxHeartbeats 2000000 in
theorem encode_yes (p : Pm) (a : Addr) (w : World) (h0 : w.cell? ⟨0, 0, none⟩ = some (.iface 98 (.pointer (some a)))) (h : vldP p = true) :
    Calls Tryd.prog 10 #[.agg p.cells] w fun e w' => e = .returned (.tuple #[.string (strOfNums (flat (pvals p))), .int .i64 0]) ∧ Below w.heap.size w w' := by
  have h00 : 0 < w.heap.size := World.block_lt_of_cell? _ _ h0
  have CK := Lib.hid (check_any p a (w.alloc (.cells p.cells 23)) (cell_alloc_l _ h0))
  have HB : Hid (Below w.heap.size w (w.alloc (.cells p.cells 23))) := Lib.hid ((Below.refl _ w).alloc (Nat.le_refl _) _)
  have V := Lib.hid (vals_any p)
  have hp0 := heap_alloc_new w (.cells p.cells 23)
  have HP := Lib.hid (fun w' (h : Below (w.alloc (.cells p.cells 23)).heap.size (w.alloc (.cells p.cells 23)) w') => box6 (heap_below h hp0))
  have hz1 : (w.alloc (.cells p.cells 23)).heap.size = w.heap.size + 1 := by simp
  have HZ := Lib.hid hz1
  clear hp0 hz1
  rw [chk_yes h] at CK
  have HV := Lib.hid h
  clear h h0
  unfold Pm.cells at *
  refine (callsIn_wide (n := 4)).1 ?_
  refine callsIn_of_wp_marks Tryd.func10 rfl trivial ?_ rfl
  simp only [Tryd.ntmps10, List.size_toArray, List.length_cons, List.length_nil, Nat.reduceAdd, Nat.reduceSub, Array.replicate_succ, Array.replicate_zero, List.push_toArray, List.append_toArray, List.nil_append, List.cons_append]
  gi_wp2_with (first | (refine ⟨trivial, ?_⟩; gi_at_call 17; refine (callsIn_wide.2 CK.out).mono ?_; rintro e w2 ⟨rfl, hb⟩; obtain ⟨k0, k1, k2, k3, k4, k5⟩ := HP.out _ hb; have hl2 : w.heap.size < w2.heap.size := Nat.lt_of_lt_of_le (by simp) hb.size; have hne2 : ¬ w.heap.size = w2.heap.size := Nat.ne_of_lt hl2) | (refine ⟨trivial, ?_⟩; gi_at_call 19; refine (callsIn_wide.2 (V.out _)).mono ?_; rintro e w' ⟨rfl, rfl⟩))
  obtain ⟨w3, hw3⟩ : ∃ w3, ((w2.alloc (.cells #[.string { data := #[] }] 9)).alloc (.cells #[.int .i64 p.a, .int .i64 p.b, .int .i64 p.c, .int .i64 p.d, .int .i64 p.e, .int .i64 p.f] 23)) = w3 := ⟨_, rfl⟩
  have hz : w2.heap.size + 2 ≤ w3.heap.size := by rw [← hw3]; simp
  have bR : Boxed w3 w2.heap.size 9 (.string { data := #[] }) := by
    rw [← hw3]
    exact (Boxed.new w2 9 _).alloc _
  have bP : w3.heap[w2.heap.size + 1]? = some (.cells p.cells 23 (0, 0)) := by
    rw [← hw3]
    have := heap_alloc_new (w2.alloc (.cells #[.string { data := #[] }] 9)) (.cells #[.int .i64 p.a, .int .i64 p.b, .int .i64 p.c, .int .i64 p.d, .int .i64 p.e, .int .i64 p.f] 23)
    rw [World.size_alloc] at this
    exact this
  have hB0 : Below w.heap.size w w3 := by
    rw [← hw3]
    exact ((HB.out.trans (hb.mono (by simp))).alloc (Nat.le_of_lt hl2) _).alloc (by simp; omega) _
  rw [hw3]
  have HW := Lib.hid hw3
  clear hw3 k0 k1 k2 k3 k4 k5
  refine wpIn_rangeFunc_ownF rfl (by decide) (gf := 25) (lb := #[.pointer (some ⟨w2.heap.size + 1, 0, none⟩)]) rfl trivial (enters_of Tryd.func25 (by kernel_rfl) rfl)
    (vals_stops (4 - 1) (by decide) (w2.heap.size + 1) p w3 bP) KeepB.tr (KeepB.put (by omega)) (Below.refl _ _) (fun _ => rfl)
    (fun pre W => (Boxed W w2.heap.size 9 (.string (strOfNums (flat (nums pre)))) ∧ w3.heap.size ≤ W.heap.size) ∧ Below w.heap.size w W)
    (fun _ _ _ => False)
    (OwnFrom.and (Own.from (fun s A B row hs hg hr => ⟨boxed_own _ _ (fun (_ : Unit) => Value.string (strOfNums (flat (nums s)))) () A B row hs.1 hg hr, Nat.le_trans hs.2 hg.size⟩) _) (ownFrom_below (Nat.le_refl _) (by omega)))
    (fun _ _ _ _ _ hs _ _ => hs)
    ⟨⟨bR, Nat.le_refl _⟩, hB0⟩
    (fun x => { tmps := #[Value.agg #[Value.int IntKind.i64 p.a, Value.int IntKind.i64 p.b, Value.int IntKind.i64 p.c, Value.int IntKind.i64 p.d, Value.int IntKind.i64 p.e, Value.int IntKind.i64 p.f], Value.pointer (some { block := w.heap.size, off := 0 }), Value.string { data := #[] }, Value.int IntKind.i64 0, Value.nilIface, Value.pointer (some { block := w2.heap.size, off := 0 }), undef, .int .i64 x.1.2, undef, undef, Value.agg #[Value.int IntKind.i64 p.a, Value.int IntKind.i64 p.b, Value.int IntKind.i64 p.c, Value.int IntKind.i64 p.d, Value.int IntKind.i64 p.e, Value.int IntKind.i64 p.f], Value.nilIface, Value.nilIface, Value.bool false, undef, undef, Value.agg #[Value.int IntKind.i64 p.a, Value.int IntKind.i64 p.b, Value.int IntKind.i64 p.c, Value.int IntKind.i64 p.d, Value.int IntKind.i64 p.e, Value.int IntKind.i64 p.f], Value.func (Fn.func 25) #[] #[Value.pointer (some { block := w2.heap.size + 1, off := 0 })], .agg (fd x.1.1), .int .i64 x.1.2, undef, undef, undef, undef, undef, undef, undef, undef, undef], defers := [] }) ?assign ?body ?done ?stop
  case assign =>
    intro l x W K hK
    simp only [encI, fd] at hK ⊢
    gi_wp2
    exact hK
  case body =>
    rintro l pre x W ⟨⟨bR1, hsz⟩, hB1⟩ hlt
    have EN := Lib.hid (enc_any x.1.2 W (item_cls HV.out x.1 x.2))
    have hlen := flat_le (nums pre)
    have hnl : (nums pre).length = pre.length := by simp [nums]
    rw [hnl] at hlen
    have hs1 : (strOfNums (flat (nums pre))).size ≤ 48 := by rw [strOfNums_size]; omega
    have hs2 : (strOfNums (encV x.1.2)).size ≤ 8 := by rw [strOfNums_size]; have h1 := encV_len x.1.2; have h2 := wid_le x.1.2; omega
    have HS := Lib.hid (nums_snoc pre x)
    have cR := fun (W' : World) (h : Below W.heap.size W W') => (h.cell (p := ⟨w2.heap.size, 0, none⟩) bR1.lt).trans bR1.cell
    have HC := Lib.hid cR
    have HF := Lib.hid (fun (W' : World) (h : Below W.heap.size W W') => (h.frozen (p := ⟨w2.heap.size, 0, none⟩) bR1.lt).trans bR1.frozen)
    have HB1 := Lib.hid hB1
    have HR := Lib.hid bR1
    clear cR hB1 bR1 hnl
    gi_wp2_with (refine ⟨trivial, ?_⟩; gi_at_call 20; refine (CallsIn.inRound l (callsIn_wide.2 EN.out)).mono ?_; rintro e w5 ⟨rfl, hb5⟩; have c5 := HC.out _ hb5; have f5 := HF.out _ hb5)
    have HB5 := Lib.hid hb5
    have b5 : Boxed w5 w2.heap.size 9 (.string (strOfNums (flat (nums pre)))) := (hb5.block w2.heap.size HR.out.lt).trans HR.out
    have hs5 := hb5.size
    refine And.intro ((KeepsOthers.of_grownBy (grown_below (r := none) hb5) (fun j o e => by cases e)).trans (KeepsOthers.setCell _ _ _)) (And.intro ((KeepB.of_below hb5 (by omega)).trans (KeepB.of_grown (grownBy_setCell' w5 w2.heap.size _) (by omega) (by simp))) (And.intro (And.intro ?_ ?_) ?_))
    · rw [HS.out, flat_snoc, ← str_app]; exact b5.set _
    · simp; exact Nat.le_trans hsz hb5.size
    · exact (HB1.out.trans (hb5.mono HB1.out.size)).setCell (by simp; omega) _
  case done =>
    rintro D ys W hD hys ⟨⟨bR1, hsz⟩, hB1⟩ hK
    have E := Lib.hid (nums_all ys hys)
    have cR := bR1.cell
    gi_wp2
    refine ⟨by simp, .inl ⟨_, _, rfl, run_takeDeferred hK, ?_⟩⟩
    exact ⟨_, results_tmp2 rfl _ _ _, by rw [← E.out]; rfl, hB1.trans (belowK_b (w := w) (Nat.le_refl _) W D _ _ (by omega) hK rfl rfl)⟩
  case stop =>
    rintro D c pre W _ _ h _
    exact h.elim
end Go.Proofs.YtddfikijehmoiaaDoor
