/- Texts FSb FR FS FSc FSd FSe FSf of this claim, one behind the other. -/
import Derived.Test.YtpfkeohaaeiaaaaGreatDoorRc5
import Derived.Deep.RegionWith
import Derived.Defers
import Derived.Recover
/- STREAM frames: encode. Printed by gen/mkFSb.py. -/
namespace Go.Proofs.YtpfkeohaaeiaaaaGreatDoor.frm
open Go.RowKit Go.Maps
set_option maxRecDepth 100000
theorem parts_str (w : World) : Calls Tryz.prog 75 #[] w fun e w' => ∃ M g n1 n5 n8, e = .returned (.map (some M)) ∧ Below w.heap.size w w' ∧ w'.heap[g]? = some (.cells (intP n1 ++ (intP n5 ++ txtP n8)) 141 (0, 0)) ∧
    (w'.heap[n1]? = some (i64B 4611686018427387903) ∧ w'.heap[n1 + 1]? = some (fnB 163 95) ∧ w'.heap[n5]? = some (i64B 1099511627776) ∧ w'.heap[n5 + 1]? = some (fnB 163 99) ∧ w'.heap[n8]? = some (i64B 0) ∧ w'.heap[n8 + 1]? = some (i64B 1024)) ∧
    (Instr.lookup 135 (.map (some M)) (.int .i64 8) true).run Tryz.prog w' = .ok (.tuple #[.slice (some ⟨g, 0, none⟩) 3 3, .bool true]) w' ∧
    (Instr.lookup 135 (.map (some M)) (.int .i64 8) false).run Tryz.prog w' = .ok (.slice (some ⟨g, 0, none⟩) 3 3) w' := by
  refine (parts_all w).mono ?_
  rintro e w' ⟨M, bx, L, n1, n5, n7, n8, rfl, hM, hL, hb, h1, h5, h7, h8, h12, h⟩
  obtain ⟨g, hg, l1, l2⟩ := str_row hM hL
  rw [h1, h5, h8] at hg
  exact ⟨M, g, n1, n5, n8, rfl, hb, hg, ⟨h.1, h.2.1, h.2.2.1, h.2.2.2.1, h.2.2.2.2.1, h.2.2.2.2.2.1⟩, l1, l2⟩
/-- string([]byte{k}) -/
theorem convK (k : Int) (_hk : 0 ≤ k ∧ k ≤ 255) (b : Nat) (w : World) (h : w.heap[b]? = some (.cells #[.int .u8 k] 5 (0, 0))) : (convert 60 9 (.slice (some ⟨b, 0, none⟩) 1 1)).run Tryz.prog w = .ok (.string (strOfNums [k])) w :=
  run_convert_bytes_arg (P := Tryz.prog) w 60 5 Tryz.underlying60 Tryz.underlying5 b 0 1 1 [k] rfl (fun i hi => by
    have e : i = 0 := by omega
    subst e
    exact at_whole h 0 rfl) 9 Tryz.underlying9
/-- behind w1: a block of a frame's own, made first; nothing that lay in w1 has turned -/
structure Ebs (w1 : World) (cs : Array Value) (W : World) : Prop where
  new : W.heap[w1.heap.size]? = some (.cells cs 56 (0, 0))
  bel : Below w1.heap.size w1 W
theorem Ebs.below {w1 W W' : World} {cs : Array Value} (h : Ebs w1 cs W) (hb : Below W.heap.size W W') : Ebs w1 cs W' := ⟨heap_below hb h.new, h.bel.trans (hb.mono h.bel.size)⟩
theorem Ebs.alloc {w1 W : World} {cs : Array Value} (h : Ebs w1 cs W) (o : Obj) : Ebs w1 cs (W.alloc o) := h.below ((Below.refl _ _).alloc (Nat.le_refl _) _)
theorem Ebs.set {w1 W : World} {cs : Array Value} (h : Ebs w1 cs W) (i : Nat) (v : Value) : Ebs w1 (cs.setIfInBounds i v) (W.setCell ⟨w1.heap.size, i, none⟩ v) := ⟨heap_set v h.new, h.bel.setCell (p := ⟨w1.heap.size, i, none⟩) (Nat.le_refl _) _⟩
theorem Ebs.old {w1 W : World} {cs : Array Value} (h : Ebs w1 cs W) {k : Nat} {o : Obj} (hk : w1.heap[k]? = some o) : W.heap[k]? = some o := heap_below h.bel hk
theorem size56s : (Tryz.prog.info? 56).map (·.size) = some 13 := by kernel_rfl
/-- a STREAM frame's cells -/
def strE (sid off : Int) (s : ByteArray) (fin : Bool) : Array Value := #[.int .i64 8, .int .i64 sid, .int .i64 off, .string s, .bool fin, .int .i64 0, .int .i64 0, .bool false, .int .i64 0, .slice none 0 0, .int .i64 0, .int .i64 0, .string ⟨#[]⟩]
/-- its encoding -/
def sfS (sid off : Int) (s : ByteArray) (fin : Bool) : ByteArray := ((strOfNums [if fin then 9 else 8] ++ strOfNums (encV sid)) ++ strOfNums (encV off)) ++ (strOfNums (encV s.size) ++ s)
set_option maxRecDepth 100000 in
set_option maxHeartbeats 4000000 in
theorem same_str (w : World) : Calls Tryz.prog 93 #[.agg (strE 0 0 ⟨#[]⟩ false), .agg (strE 0 0 ⟨#[]⟩ false)] w fun e w' => e = .returned (.bool true) ∧ Below w.heap.size w w' := by
  unfold strE
  have c := box2 w (.cells #[.int .i64 8, .int .i64 0, .int .i64 0, .string ⟨#[]⟩, .bool false, .int .i64 0, .int .i64 0, .bool false, .int .i64 0, .slice none 0 0, .int .i64 0, .int .i64 0, .string ⟨#[]⟩] 56) (.cells #[.int .i64 8, .int .i64 0, .int .i64 0, .string ⟨#[]⟩, .bool false, .int .i64 0, .int .i64 0, .bool false, .int .i64 0, .slice none 0 0, .int .i64 0, .int .i64 0, .string ⟨#[]⟩] 56)
  have C := Lib.hid c
  clear c
  go_enter Tryz.func93, Tryz.ntmps93
  go_wp2_with (go_at_call 122; refine (equal_nil _).mono ?_; rintro e w' ⟨rfl, rfl⟩)
  go_ret
  exact ⟨rfl, C.out.2.2.1⟩
theorem cV_len (n : Int) : (strOfNums (encV n)).size ≤ 8 := by rw [strOf_size]; exact encV_len n
set_option maxRecDepth 100000 in
set_option maxHeartbeats 8000000 in
theorem encode_strFalse (sid off : Int) (s : ByteArray) (w : World) (h0 : 0 ≤ sid) (h1 : sid ≤ 4611686018427387903) (h2 : 0 ≤ off) (h3 : off + (s.size : Int) ≤ 1099511627776) (h4 : s.size ≤ 1024) :
    Calls Tryz.prog 73 #[.agg (strE sid off s false)] w fun e w' => e = .returned (.string (sfS sid off s false)) ∧ Below w.heap.size w w' := by
  have X := Lib.hid (box1 w (.cells (strE sid off s false) 56))
  have XC := Lib.hid (fun (W : World) (h : W.heap[w.heap.size]? = some (.cells (strE sid off s false) 56 (0, 0))) => (show W.cell? ⟨w.heap.size, 0, none⟩ = some (.int .i64 8) ∧ W.cell? ⟨w.heap.size, 4, none⟩ = some (.bool false) from ⟨at_whole h 0 rfl, at_whole h 4 rfl⟩))
  have x0 := XC.out _ X.out.1
  obtain ⟨x0, x4⟩ := x0
  obtain ⟨S, hS⟩ : ∃ S, sfS sid off s false = S := ⟨_, rfl⟩
  rw [hS]
  have HS : Hid (((strOfNums [8] ++ strOfNums (encV sid)) ++ strOfNums (encV off)) ++ (strOfNums (encV s.size) ++ s) = S) := Lib.hid hS
  clear hS
  unfold strE at *
  go_enter Tryz.func73, Tryz.ntmps73
  go_wp2
  generalize hV : w.alloc _ = V at X x0 x4 ⊢
  clear hV
  go_region_with ((go_at_call 75; refine (parts_str _).mono ?_; rintro e w1 ⟨M, g, n1, n5, n8, rfl, hb, hg, hn, hlook, -⟩; have hx := Lib.hid (heap_below (below_drew hb) X.out.1); have y0 := (XC.out _ hx.out).1; have y4 := (XC.out _ hx.out).2; have HG := Lib.hid hn; have G1 := Lib.hid hg; have HB := Lib.hid (btrans X.out.2.1 (below_drew hb)); clear hb hg hn))
  all_goals
    go_wp2_with (first | (refine wpList_load_row rfl 56 _ rfl w.heap.size rfl 56 _ (0, 0) _ hx.out Tryz.underlying56 rfl size56s ?_) | (refine wpList_store_row rfl 56 _ _ rfl w1.heap.size _ rfl rfl 56 _ (heap_alloc_new _ _) size56s rfl rfl ?_; rw [World.setRow_alloc_new]))
    have F2 := Lib.hid (box2 w1 (.cells #[.int .i64 8, .int .i64 sid, .int .i64 off, .string s, .bool false, .int .i64 0, .int .i64 0, .bool false, .int .i64 0, .slice none 0 0, .int .i64 0, .int .i64 0, .string ⟨#[]⟩] 56) (.cells #[.int .u8 8] 5))
    generalize (w1.alloc _).alloc _ = W2 at F2 ⊢
    rw [convK 8 (by decide) _ _ F2.out.2.1]
    simp only [Result.andThen]
    rw [Oper.upon_value]
    have E2 := Lib.hid (Ebs.mk F2.out.1 F2.out.2.2.1)
    have hz : (strOfNums [8]).size = 1 := by decide
    generalize strOfNums [8] = s0 at *
    clear F2 x0 x4 y0 y4 hlook XC
    go_wp2
    refine wp_loop_rounds 4 ?_
    rw [rounds_succ]
    have pa0 := at_whole (E2.out.old G1.out) 0 rfl
    have pb0 := at_whole (E2.out.old G1.out) 1 rfl
    have pc0 := at_whole (E2.out.old G1.out) 2 rfl
    simp only [intP, txtP, fnv] at pa0 pb0 pc0
    go_wp2_with fail
    have EA0 := Lib.hid (E2.out.alloc (.cells (intP n1) 141))
    have PA0 := Lib.hid (heap_alloc_new W2 (.cells (intP n1) 141))
    simp only [intP] at EA0 PA0
    generalize W2.alloc _ = WA0 at EA0 PA0 ⊢
    refine (put1_any w.heap.size n1 sid 4611686018427387903 _ h0 h1 h1 (at_whole (EA0.out.old hx.out) 1 rfl) (at_whole (EA0.out.old HG.out.2.1) 0 rfl) (at_whole (EA0.out.old HG.out.1) 0 rfl)).mono ?_
    rintro e WB0 ⟨rfl, hb0⟩
    have EB0 := Lib.hid (EA0.out.below hb0)
    have rc0 := at_whole (heap_below hb0 PA0.out) 2 rfl
    have hs0 := cV_len sid
    generalize strOfNums (encV sid) = st0 at *
    have zz0 : (9223372036854775807 < s0.size + st0.size) = False := eq_false (by omega)
    simp only [List.getElem_toArray, List.getElem_cons_zero, List.getElem_cons_succ] at rc0
    clear E2 EA0 hb0 pa0 pb0 pc0 PA0
    go_wp2_with fail
    refine (clear1_any w1.heap.size n1 _ _ EB0.out.new rfl (at_whole (EB0.out.old HG.out.2.1) 0 rfl)).mono ?_
    rintro e WC0 ⟨rfl, rfl⟩
    have EC0 := Lib.hid (EB0.out.set 1 (.int .i64 0))
    simp only [List.setIfInBounds_toArray, List.set_cons_zero, List.set_cons_succ] at EC0
    generalize WB0.setCell _ _ = WD0 at EC0 ⊢
    have hu0 : (s0 ++ st0).size ≤ 9 := by rw [ByteArray.size_append]; omega
    generalize s0 ++ st0 = ss0 at *
    clear EB0 rc0 zz0 hz hs0
    go_wp2
    rw [rounds_succ]
    have pa1 := at_whole (EC0.out.old G1.out) 3 rfl
    have pb1 := at_whole (EC0.out.old G1.out) 4 rfl
    have pc1 := at_whole (EC0.out.old G1.out) 5 rfl
    simp only [intP, txtP, fnv] at pa1 pb1 pc1
    go_wp2_with fail
    have EA1 := Lib.hid (EC0.out.alloc (.cells (intP n5) 141))
    have PA1 := Lib.hid (heap_alloc_new WD0 (.cells (intP n5) 141))
    simp only [intP] at EA1 PA1
    generalize WD0.alloc _ = WA1 at EA1 PA1 ⊢
    refine (put2_any w.heap.size n5 off 1099511627776 _ h2 (by omega) (by omega) (at_whole (EA1.out.old hx.out) 2 rfl) (at_whole (EA1.out.old HG.out.2.2.2.1) 0 rfl) (at_whole (EA1.out.old HG.out.2.2.1) 0 rfl)).mono ?_
    rintro e WB1 ⟨rfl, hb1⟩
    have EB1 := Lib.hid (EA1.out.below hb1)
    have rc1 := at_whole (heap_below hb1 PA1.out) 2 rfl
    have hs1 := cV_len off
    generalize strOfNums (encV off) = st1 at *
    have zz1 : (9223372036854775807 < ss0.size + st1.size) = False := eq_false (by omega)
    simp only [List.getElem_toArray, List.getElem_cons_zero, List.getElem_cons_succ] at rc1
    clear EC0 EA1 hb1 pa1 pb1 pc1 PA1
    go_wp2_with fail
    refine (clear2_any w1.heap.size n5 _ _ EB1.out.new rfl (at_whole (EB1.out.old HG.out.2.2.2.1) 0 rfl)).mono ?_
    rintro e WC1 ⟨rfl, rfl⟩
    have EC1 := Lib.hid (EB1.out.set 2 (.int .i64 0))
    simp only [List.setIfInBounds_toArray, List.set_cons_zero, List.set_cons_succ] at EC1
    generalize WB1.setCell _ _ = WD1 at EC1 ⊢
    have hu1 : (ss0 ++ st1).size ≤ 17 := by rw [ByteArray.size_append]; omega
    generalize ss0 ++ st1 = ss1 at *
    clear EB1 rc1 zz1 hu0 hs1
    go_wp2
    rw [rounds_succ]
    have pa2 := at_whole (EC1.out.old G1.out) 6 rfl
    have pb2 := at_whole (EC1.out.old G1.out) 7 rfl
    have pc2 := at_whole (EC1.out.old G1.out) 8 rfl
    simp only [intP, txtP, fnv] at pa2 pb2 pc2
    go_wp2_with fail
    have EA2 := Lib.hid (EC1.out.alloc (.cells (txtP n8) 141))
    have PA2 := Lib.hid (heap_alloc_new WD1 (.cells (txtP n8) 141))
    simp only [txtP, fnv] at EA2 PA2
    generalize WD1.alloc _ = WA2 at EA2 PA2 ⊢
    refine (putS_any w.heap.size n8 off s 1024 _ h2 h3 (by omega) (at_whole (EA2.out.old hx.out) 2 rfl) (at_whole (EA2.out.old hx.out) 3 rfl) (at_whole (EA2.out.old HG.out.2.2.2.2.1) 0 rfl) (at_whole (EA2.out.old HG.out.2.2.2.2.2) 0 rfl)).mono ?_
    rintro e WB2 ⟨rfl, hb2⟩
    have EB2 := Lib.hid (EA2.out.below hb2)
    have rc2 := at_whole (heap_below hb2 PA2.out) 2 rfl
    have hs2 := (show (strOfNums (encV s.size) ++ s).size ≤ 1032 by rw [ByteArray.size_append]; have := cV_len s.size; omega)
    generalize (strOfNums (encV s.size) ++ s) = st2 at *
    have zz2 : (9223372036854775807 < ss1.size + st2.size) = False := eq_false (by omega)
    simp only [List.getElem_toArray, List.getElem_cons_zero, List.getElem_cons_succ] at rc2
    clear EC1 EA2 hb2 pa2 pb2 pc2 PA2
    go_wp2_with fail
    refine (clearS_any w1.heap.size _ _ EB2.out.new rfl).mono ?_
    rintro e WC2 ⟨rfl, rfl⟩
    have EC2 := Lib.hid (EB2.out.set 3 (.string ⟨#[]⟩))
    simp only [List.setIfInBounds_toArray, List.set_cons_zero, List.set_cons_succ] at EC2
    generalize WB2.setCell _ _ = WD2 at EC2 ⊢
    have hu2 : (ss1 ++ st2).size ≤ 1049 := by rw [ByteArray.size_append]; omega
    generalize ss1 ++ st2 = ss2 at *
    clear EB2 rc2 zz2 hu1 hs2
    go_wp2
    rw [rounds_succ]
    have x0 := at_whole (EC2.out.old hx.out) 0 rfl
    simp only [List.getElem_toArray, List.getElem_cons_zero] at x0
    go_wp2_with (first | (refine wpList_load_row rfl 56 _ rfl w1.heap.size rfl 56 _ (0, 0) _ EC2.out.new Tryz.underlying56 rfl size56s ?_) | (go_at_call 93; refine (same_str _).mono ?_; rintro e W9 ⟨rfl, hb9⟩))
    go_ret
    exact ⟨by rw [HS.out]; rfl, HB.out.trans ((EC2.out.below hb9).bel.mono HB.out.size)⟩
set_option maxRecDepth 100000 in
set_option maxHeartbeats 8000000 in
theorem encode_strTrue (sid off : Int) (s : ByteArray) (w : World) (h0 : 0 ≤ sid) (h1 : sid ≤ 4611686018427387903) (h2 : 0 ≤ off) (h3 : off + (s.size : Int) ≤ 1099511627776) (h4 : s.size ≤ 1024) :
    Calls Tryz.prog 73 #[.agg (strE sid off s true)] w fun e w' => e = .returned (.string (sfS sid off s true)) ∧ Below w.heap.size w w' := by
  have X := Lib.hid (box1 w (.cells (strE sid off s true) 56))
  have XC := Lib.hid (fun (W : World) (h : W.heap[w.heap.size]? = some (.cells (strE sid off s true) 56 (0, 0))) => (show W.cell? ⟨w.heap.size, 0, none⟩ = some (.int .i64 8) ∧ W.cell? ⟨w.heap.size, 4, none⟩ = some (.bool true) from ⟨at_whole h 0 rfl, at_whole h 4 rfl⟩))
  have x0 := XC.out _ X.out.1
  obtain ⟨x0, x4⟩ := x0
  obtain ⟨S, hS⟩ : ∃ S, sfS sid off s true = S := ⟨_, rfl⟩
  rw [hS]
  have HS : Hid (((strOfNums [9] ++ strOfNums (encV sid)) ++ strOfNums (encV off)) ++ (strOfNums (encV s.size) ++ s) = S) := Lib.hid hS
  clear hS
  unfold strE at *
  go_enter Tryz.func73, Tryz.ntmps73
  go_wp2
  generalize hV : w.alloc _ = V at X x0 x4 ⊢
  clear hV
  go_region_with ((go_at_call 75; refine (parts_str _).mono ?_; rintro e w1 ⟨M, g, n1, n5, n8, rfl, hb, hg, hn, hlook, -⟩; have hx := Lib.hid (heap_below (below_drew hb) X.out.1); have y0 := (XC.out _ hx.out).1; have y4 := (XC.out _ hx.out).2; have HG := Lib.hid hn; have G1 := Lib.hid hg; have HB := Lib.hid (btrans X.out.2.1 (below_drew hb)); clear hb hg hn))
  all_goals
    go_wp2_with (first | (refine wpList_load_row rfl 56 _ rfl w.heap.size rfl 56 _ (0, 0) _ hx.out Tryz.underlying56 rfl size56s ?_) | (refine wpList_store_row rfl 56 _ _ rfl w1.heap.size _ rfl rfl 56 _ (heap_alloc_new _ _) size56s rfl rfl ?_; rw [World.setRow_alloc_new]))
    have F2 := Lib.hid (box2 w1 (.cells #[.int .i64 8, .int .i64 sid, .int .i64 off, .string s, .bool false, .int .i64 0, .int .i64 0, .bool false, .int .i64 0, .slice none 0 0, .int .i64 0, .int .i64 0, .string ⟨#[]⟩] 56) (.cells #[.int .u8 9] 5))
    generalize (w1.alloc _).alloc _ = W2 at F2 ⊢
    rw [convK 9 (by decide) _ _ F2.out.2.1]
    simp only [Result.andThen]
    rw [Oper.upon_value]
    have E2 := Lib.hid (Ebs.mk F2.out.1 F2.out.2.2.1)
    have hz : (strOfNums [9]).size = 1 := by decide
    generalize strOfNums [9] = s0 at *
    clear F2 x0 x4 y0 y4 hlook XC
    go_wp2
    refine wp_loop_rounds 4 ?_
    rw [rounds_succ]
    have pa0 := at_whole (E2.out.old G1.out) 0 rfl
    have pb0 := at_whole (E2.out.old G1.out) 1 rfl
    have pc0 := at_whole (E2.out.old G1.out) 2 rfl
    simp only [intP, txtP, fnv] at pa0 pb0 pc0
    go_wp2_with fail
    have EA0 := Lib.hid (E2.out.alloc (.cells (intP n1) 141))
    have PA0 := Lib.hid (heap_alloc_new W2 (.cells (intP n1) 141))
    simp only [intP] at EA0 PA0
    generalize W2.alloc _ = WA0 at EA0 PA0 ⊢
    refine (put1_any w.heap.size n1 sid 4611686018427387903 _ h0 h1 h1 (at_whole (EA0.out.old hx.out) 1 rfl) (at_whole (EA0.out.old HG.out.2.1) 0 rfl) (at_whole (EA0.out.old HG.out.1) 0 rfl)).mono ?_
    rintro e WB0 ⟨rfl, hb0⟩
    have EB0 := Lib.hid (EA0.out.below hb0)
    have rc0 := at_whole (heap_below hb0 PA0.out) 2 rfl
    have hs0 := cV_len sid
    generalize strOfNums (encV sid) = st0 at *
    have zz0 : (9223372036854775807 < s0.size + st0.size) = False := eq_false (by omega)
    simp only [List.getElem_toArray, List.getElem_cons_zero, List.getElem_cons_succ] at rc0
    clear E2 EA0 hb0 pa0 pb0 pc0 PA0
    go_wp2_with fail
    refine (clear1_any w1.heap.size n1 _ _ EB0.out.new rfl (at_whole (EB0.out.old HG.out.2.1) 0 rfl)).mono ?_
    rintro e WC0 ⟨rfl, rfl⟩
    have EC0 := Lib.hid (EB0.out.set 1 (.int .i64 0))
    simp only [List.setIfInBounds_toArray, List.set_cons_zero, List.set_cons_succ] at EC0
    generalize WB0.setCell _ _ = WD0 at EC0 ⊢
    have hu0 : (s0 ++ st0).size ≤ 9 := by rw [ByteArray.size_append]; omega
    generalize s0 ++ st0 = ss0 at *
    clear EB0 rc0 zz0 hz hs0
    go_wp2
    rw [rounds_succ]
    have pa1 := at_whole (EC0.out.old G1.out) 3 rfl
    have pb1 := at_whole (EC0.out.old G1.out) 4 rfl
    have pc1 := at_whole (EC0.out.old G1.out) 5 rfl
    simp only [intP, txtP, fnv] at pa1 pb1 pc1
    go_wp2_with fail
    have EA1 := Lib.hid (EC0.out.alloc (.cells (intP n5) 141))
    have PA1 := Lib.hid (heap_alloc_new WD0 (.cells (intP n5) 141))
    simp only [intP] at EA1 PA1
    generalize WD0.alloc _ = WA1 at EA1 PA1 ⊢
    refine (put2_any w.heap.size n5 off 1099511627776 _ h2 (by omega) (by omega) (at_whole (EA1.out.old hx.out) 2 rfl) (at_whole (EA1.out.old HG.out.2.2.2.1) 0 rfl) (at_whole (EA1.out.old HG.out.2.2.1) 0 rfl)).mono ?_
    rintro e WB1 ⟨rfl, hb1⟩
    have EB1 := Lib.hid (EA1.out.below hb1)
    have rc1 := at_whole (heap_below hb1 PA1.out) 2 rfl
    have hs1 := cV_len off
    generalize strOfNums (encV off) = st1 at *
    have zz1 : (9223372036854775807 < ss0.size + st1.size) = False := eq_false (by omega)
    simp only [List.getElem_toArray, List.getElem_cons_zero, List.getElem_cons_succ] at rc1
    clear EC0 EA1 hb1 pa1 pb1 pc1 PA1
    go_wp2_with fail
    refine (clear2_any w1.heap.size n5 _ _ EB1.out.new rfl (at_whole (EB1.out.old HG.out.2.2.2.1) 0 rfl)).mono ?_
    rintro e WC1 ⟨rfl, rfl⟩
    have EC1 := Lib.hid (EB1.out.set 2 (.int .i64 0))
    simp only [List.setIfInBounds_toArray, List.set_cons_zero, List.set_cons_succ] at EC1
    generalize WB1.setCell _ _ = WD1 at EC1 ⊢
    have hu1 : (ss0 ++ st1).size ≤ 17 := by rw [ByteArray.size_append]; omega
    generalize ss0 ++ st1 = ss1 at *
    clear EB1 rc1 zz1 hu0 hs1
    go_wp2
    rw [rounds_succ]
    have pa2 := at_whole (EC1.out.old G1.out) 6 rfl
    have pb2 := at_whole (EC1.out.old G1.out) 7 rfl
    have pc2 := at_whole (EC1.out.old G1.out) 8 rfl
    simp only [intP, txtP, fnv] at pa2 pb2 pc2
    go_wp2_with fail
    have EA2 := Lib.hid (EC1.out.alloc (.cells (txtP n8) 141))
    have PA2 := Lib.hid (heap_alloc_new WD1 (.cells (txtP n8) 141))
    simp only [txtP, fnv] at EA2 PA2
    generalize WD1.alloc _ = WA2 at EA2 PA2 ⊢
    refine (putS_any w.heap.size n8 off s 1024 _ h2 h3 (by omega) (at_whole (EA2.out.old hx.out) 2 rfl) (at_whole (EA2.out.old hx.out) 3 rfl) (at_whole (EA2.out.old HG.out.2.2.2.2.1) 0 rfl) (at_whole (EA2.out.old HG.out.2.2.2.2.2) 0 rfl)).mono ?_
    rintro e WB2 ⟨rfl, hb2⟩
    have EB2 := Lib.hid (EA2.out.below hb2)
    have rc2 := at_whole (heap_below hb2 PA2.out) 2 rfl
    have hs2 := (show (strOfNums (encV s.size) ++ s).size ≤ 1032 by rw [ByteArray.size_append]; have := cV_len s.size; omega)
    generalize (strOfNums (encV s.size) ++ s) = st2 at *
    have zz2 : (9223372036854775807 < ss1.size + st2.size) = False := eq_false (by omega)
    simp only [List.getElem_toArray, List.getElem_cons_zero, List.getElem_cons_succ] at rc2
    clear EC1 EA2 hb2 pa2 pb2 pc2 PA2
    go_wp2_with fail
    refine (clearS_any w1.heap.size _ _ EB2.out.new rfl).mono ?_
    rintro e WC2 ⟨rfl, rfl⟩
    have EC2 := Lib.hid (EB2.out.set 3 (.string ⟨#[]⟩))
    simp only [List.setIfInBounds_toArray, List.set_cons_zero, List.set_cons_succ] at EC2
    generalize WB2.setCell _ _ = WD2 at EC2 ⊢
    have hu2 : (ss1 ++ st2).size ≤ 1049 := by rw [ByteArray.size_append]; omega
    generalize ss1 ++ st2 = ss2 at *
    clear EB2 rc2 zz2 hu1 hs2
    go_wp2
    rw [rounds_succ]
    have x0 := at_whole (EC2.out.old hx.out) 0 rfl
    simp only [List.getElem_toArray, List.getElem_cons_zero] at x0
    go_wp2_with (first | (refine wpList_load_row rfl 56 _ rfl w1.heap.size rfl 56 _ (0, 0) _ EC2.out.new Tryz.underlying56 rfl size56s ?_) | (go_at_call 93; refine (same_str _).mono ?_; rintro e W9 ⟨rfl, hb9⟩))
    go_ret
    exact ⟨by rw [HS.out]; rfl, HB.out.trans ((EC2.out.below hb9).bel.mono HB.out.size)⟩
theorem encode_str (sid off : Int) (s : ByteArray) (fin : Bool) (w : World) (h0 : 0 ≤ sid) (h1 : sid ≤ 4611686018427387903) (h2 : 0 ≤ off) (h3 : off + (s.size : Int) ≤ 1099511627776) (h4 : s.size ≤ 1024) :
    Calls Tryz.prog 73 #[.agg (strE sid off s fin)] w fun e w' => e = .returned (.string (sfS sid off s fin)) ∧ Below w.heap.size w w' := by
  cases fin
  · exact encode_strFalse sid off s w h0 h1 h2 h3 h4
  · exact encode_strTrue sid off s w h0 h1 h2 h3 h4
end Go.Proofs.YtpfkeohaaeiaaaaGreatDoor.frm
/- Law 13: encode at an ACK frame. -/
namespace Go.Proofs.YtpfkeohaaeiaaaaGreatDoor.frm
open Go.RowKit Go.Maps
set_option maxRecDepth 100000
/-- string([]byte{2}) -/
theorem conv1 (b : Nat) (w : World) (h : w.heap[b]? = some (.cells #[.int .u8 2] 5 (0, 0))) : (convert 60 9 (.slice (some ⟨b, 0, none⟩) 1 1)).run Tryz.prog w = .ok (.string (strOfNums [2])) w :=
  run_convert_bytes_arg (P := Tryz.prog) w 60 5 Tryz.underlying60 Tryz.underlying5 b 0 1 1 [2] (by decide) (fun i hi => by
    have e : i = 0 := by omega
    subst e
    exact at_whole h 0 rfl) 9 Tryz.underlying9
/-- behind w1: a block of a frame's own, made first; nothing that lay in w1 has turned -/
structure Eb (w1 : World) (cs : Array Value) (W : World) : Prop where
  new : W.heap[w1.heap.size]? = some (.cells cs 56 (0, 0))
  bel : Below w1.heap.size w1 W
theorem Eb.below {w1 W W' : World} {cs : Array Value} (h : Eb w1 cs W) (hb : Below W.heap.size W W') : Eb w1 cs W' := ⟨heap_below hb h.new, h.bel.trans (hb.mono h.bel.size)⟩
theorem Eb.alloc {w1 W : World} {cs : Array Value} (h : Eb w1 cs W) (o : Obj) : Eb w1 cs (W.alloc o) := h.below ((Below.refl _ _).alloc (Nat.le_refl _) _)
theorem Eb.set {w1 W : World} {cs : Array Value} (h : Eb w1 cs W) (i : Nat) (v : Value) : Eb w1 (cs.setIfInBounds i v) (W.setCell ⟨w1.heap.size, i, none⟩ v) := ⟨heap_set v h.new, h.bel.setCell (p := ⟨w1.heap.size, i, none⟩) (Nat.le_refl _) _⟩
theorem Eb.old {w1 W : World} {cs : Array Value} (h : Eb w1 cs W) {k : Nat} {o : Obj} (hk : w1.heap[k]? = some o) : W.heap[k]? = some o := heap_below h.bel hk
theorem size56 : (Tryz.prog.info? 56).map (·.size) = some 13 := by kernel_rfl
set_option maxRecDepth 100000 in
set_option maxHeartbeats 8000000 in
theorem encode_ack (d : Int) (rv : Value) (n : Nat) (F T : Nat → Int) (w : World) (h0 : 0 ≤ d) (h1 : d ≤ 4611686018427387903) (hR : RgOk n F T) (hS : SpansAt w rv n F T) :
    Calls Tryz.prog 73 #[.agg (ackE d rv)] w fun e w' => ∃ s, e = .returned (.string s) ∧ Below w.heap.size w w' := by
  have HR := Lib.hid hR
  obtain ⟨g0, o0, c0, hrv, q1, q2, q3⟩ := hS
  subst hrv
  have HS := Lib.hid (show SpansAt w (.slice (some ⟨g0, o0, none⟩) n c0) n F T from ⟨g0, o0, c0, rfl, q1, q2, q3⟩)
  clear q1 q2 q3
  clear hR
  have X := Lib.hid (box1 w (.cells (ackE d (.slice (some ⟨g0, o0, none⟩) n c0)) 56))
  have XC := Lib.hid (fun (W : World) (h : W.heap[w.heap.size]? = some (.cells (ackE d (.slice (some ⟨g0, o0, none⟩) n c0)) 56 (0, 0))) => (show W.cell? ⟨w.heap.size, 0, none⟩ = some (.int .i64 2) ∧ W.cell? ⟨w.heap.size, 4, none⟩ = some (.bool false) from ⟨at_whole h 0 rfl, at_whole h 4 rfl⟩))
  have x0 := XC.out _ X.out.1
  obtain ⟨x0, x4⟩ := x0
  unfold ackE at *
  go_enter Tryz.func73, Tryz.ntmps73
  go_wp2
  generalize hV : w.alloc _ = V at X x0 x4 ⊢
  clear hV
  go_region_with ((go_at_call 75; refine (parts_any _).mono ?_; rintro e w1 ⟨M, bx, L, m, rfl, hM, hL, hb, h7, h12, n0, n1⟩; obtain ⟨g, cs, hg, hcs, z7, z12, hlook⟩ := ack_row hM hL; have hx := Lib.hid (heap_below (below_drew hb) X.out.1); have y0 := (XC.out _ hx.out).1; have y4 := (XC.out _ hx.out).2; have HG := Lib.hid (And.intro hg (And.intro hcs (And.intro h7 (And.intro h12 (And.intro n0 n1))))); have HB := Lib.hid (btrans X.out.2.1 (below_drew hb)); clear hM hL hb h7 h12 n0 n1 hg hcs z7 z12))
  all_goals
    go_wp2_with (first | (refine wpList_load_row rfl 56 _ rfl w.heap.size rfl 56 _ (0, 0) _ hx.out Tryz.underlying56 rfl size56 ?_) | (refine wpList_store_row rfl 56 _ _ rfl w1.heap.size _ rfl rfl 56 _ (heap_alloc_new _ _) size56 rfl rfl ?_; rw [World.setRow_alloc_new]))
    have F2 := Lib.hid (box2 w1 (.cells #[.int .i64 2, .int .i64 0, .int .i64 0, .string ⟨#[]⟩, .bool false, .int .i64 0, .int .i64 0, .bool false, .int .i64 d, .slice (some ⟨g0, o0, none⟩) n c0, .int .i64 0, .int .i64 0, .string ⟨#[]⟩] 56) (.cells #[.int .u8 2] 5))
    generalize (w1.alloc _).alloc _ = W2 at F2 ⊢
    rw [conv1 _ _ F2.out.2.1]
    simp only [Result.andThen]
    rw [Oper.upon_value]
    have E2 := Lib.hid (Eb.mk F2.out.1 F2.out.2.2.1)
    have G1 := Lib.hid (show w1.heap[g]? = some (.cells (intP m ++ rngP) 141 (0, 0)) from by
      obtain ⟨q1, q2, q3, q4, _, _⟩ := HG.out
      rw [q2, q3, q4] at q1
      exact q1)
    have hz : (strOfNums [2]).size = 1 := by decide
    generalize strOfNums [2] = s0 at *
    clear F2 x0 x4 y0 y4 hlook XC
    go_wp2
    refine wp_loop_rounds 3 ?_
    rw [rounds_succ]
    have p0 := at_whole (E2.out.old G1.out) 0 rfl
    have p1 := at_whole (E2.out.old G1.out) 1 rfl
    have p2 := at_whole (E2.out.old G1.out) 2 rfl
    simp only [intP, rngP, fnv] at p0 p1 p2
    go_wp2_with fail
    have E3 := Lib.hid (E2.out.alloc (.cells (intP m) 141))
    have P3 := Lib.hid (heap_alloc_new W2 (.cells (intP m) 141))
    simp only [intP] at E3 P3
    generalize W2.alloc _ = W3 at E3 P3 ⊢
    refine (putDelay_any w.heap.size m d 4611686018427387903 _ h0 h1 h1 (at_whole (E3.out.old hx.out) 8 rfl) (at_whole (E3.out.old HG.out.2.2.2.2.2) 0 rfl) (at_whole (E3.out.old HG.out.2.2.2.2.1) 0 rfl)).mono ?_
    rintro e W4 ⟨s1, hs1, rfl, hb4⟩
    have E4 := Lib.hid (E3.out.below hb4)
    have r2 := at_whole (heap_below hb4 P3.out) 2 rfl
    have z1 : (9223372036854775807 < s0.size + s1.size) = False := eq_false (by omega)
    simp only [List.getElem_toArray, List.getElem_cons_zero, List.getElem_cons_succ] at r2
    clear E2 E3 hb4 p0 p1 p2 P3
    go_wp2_with fail
    refine (clearDelay_any w1.heap.size m _ _ E4.out.new rfl (at_whole (E4.out.old HG.out.2.2.2.2.2) 0 rfl)).mono ?_
    rintro e W5 ⟨rfl, rfl⟩
    have E5 := Lib.hid (E4.out.set 8 (.int .i64 0))
    simp only [List.setIfInBounds_toArray, List.set_cons_zero, List.set_cons_succ] at E5
    generalize W4.setCell _ _ = W5 at E5 ⊢
    have hz1 : (s0 ++ s1).size ≤ 281 := by rw [ByteArray.size_append]; omega
    generalize s0 ++ s1 = s2 at hz1 ⊢
    clear E4 r2 z1 hz hs1
    go_wp2
    rw [rounds_succ]
    have p3 := at_whole (E5.out.old G1.out) 3 rfl
    have p4 := at_whole (E5.out.old G1.out) 4 rfl
    have p5 := at_whole (E5.out.old G1.out) 5 rfl
    simp only [intP, rngP, fnv] at p3 p4 p5
    go_wp2_with fail
    have E6 := Lib.hid (E5.out.alloc (.cells rngP 141))
    have P6 := Lib.hid (heap_alloc_new W5 (.cells rngP 141))
    simp only [rngP, fnv] at E6 P6
    generalize W5.alloc _ = W6 at E6 P6 ⊢
    refine (putRanges_any w.heap.size n F T _ _ _ HR.out (HS.out.below (btrans HB.out E6.out.bel)) (E6.out.old hx.out) rfl).mono ?_
    rintro e W7 ⟨s3, hs3, rfl, hb7⟩
    have E7 := Lib.hid (E6.out.below hb7)
    have r8 := at_whole (heap_below hb7 P6.out) 2 rfl
    have z2 : (9223372036854775807 < s2.size + s3.size) = False := eq_false (by omega)
    simp only [List.getElem_toArray, List.getElem_cons_zero, List.getElem_cons_succ] at r8
    clear E5 E6 hb7 p3 p4 p5 P6
    go_wp2_with fail
    refine (clearRanges_any w1.heap.size _ _ E7.out.new rfl).mono ?_
    rintro e W8 ⟨rfl, rfl⟩
    have E8 := Lib.hid (E7.out.set 9 (.slice none 0 0))
    simp only [List.setIfInBounds_toArray, List.set_cons_zero, List.set_cons_succ] at E8
    generalize W7.setCell _ _ = W8 at E8 ⊢
    clear E7 r8 z2
    go_wp2
    rw [rounds_succ]
    have x0 := at_whole (E8.out.old hx.out) 0 rfl
    simp only [List.getElem_toArray, List.getElem_cons_zero] at x0
    go_wp2_with (first | (refine wpList_load_row rfl 56 _ rfl w1.heap.size rfl 56 _ (0, 0) _ E8.out.new Tryz.underlying56 rfl size56 ?_) | (go_at_call 93; refine (same_ack _).mono ?_; rintro e W9 ⟨rfl, hb9⟩))
    go_ret
    exact ⟨_, rfl, HB.out.trans ((E8.out.below hb9).bel.mono HB.out.size)⟩
end Go.Proofs.YtpfkeohaaeiaaaaGreatDoor.frm
/- Law 13: Valid at an ACK frame. -/
namespace Go.Proofs.YtpfkeohaaeiaaaaGreatDoor.frm
open Go.RowKit
set_option maxRecDepth 100000
theorem catch_idle (w : World) :
    CallsD Tryz.prog 92 #[] .returning w fun e u' w' => e = .returned (.tuple #[]) ∧ u' = .returning ∧ w' = w := by
  refine callsD_of_wpS Tryz.func92 rfl fun c₀ cs hu => ?_
  apply wpS_seq
  apply wpS_region
  simp [wpOpsS, go_sem, recoverD, hu, Tryz.ntmps92, Exit.thenS]
  apply wpS_seq
  apply wpS_region
  simp [wpOpsS, go_sem, Exit.thenS]
  refine wpS_cond (t := false) (by simp [Act.eval, Array.replicate]) ?_
  simp only [Bool.false_eq_true, if_false]
  refine wpS_of_wp (wp_skip ?_)
  cases c₀
  simp_all [bodyPostS, results, Tryz.results92]
set_option maxRecDepth 100000 in
set_option maxHeartbeats 2000000 in
theorem vclos_any (b : Nat) (d : Int) (rv : Value) (n : Nat) (F T : Nat → Int) (w : World) (h0 : 0 ≤ d) (h1 : d ≤ 4611686018427387903) (hR : RgOk n F T) (hS : SpansAt w rv n F T) (hb : w.heap[b]? = some (.cells (ackE d rv) 56 (0, 0))) :
    Calls Tryz.prog 117 #[.pointer (some ⟨b, 0, none⟩)] w fun e w' => e = .returned (.tuple #[]) ∧ Below w.heap.size w w' := by
  have E := Lib.hid (encode_ack d rv n F T w h0 h1 hR hS)
  have HB := Lib.hid hb
  clear hR hS hb
  unfold ackE at *
  go_enter Tryz.func117, Tryz.ntmps117
  go_wp2_with (first | (refine wpList_load_row rfl 56 _ rfl b rfl 56 _ (0, 0) _ HB.out Tryz.underlying56 rfl size56 ?_) | (go_at_call 73; refine E.out.mono ?_; rintro e w' ⟨s, rfl, hb⟩))
  go_end0
  exact ⟨rfl, hb⟩
set_option maxRecDepth 100000 in
set_option maxHeartbeats 2000000 in
theorem guard_any (b : Nat) (w : World) (hc : Calls Tryz.prog 117 #[.pointer (some ⟨b, 0, none⟩)] w fun e w' => e = .returned (.tuple #[]) ∧ Below w.heap.size w w') :
    Calls Tryz.prog 71 #[.func (.func 117) #[] #[.pointer (some ⟨b, 0, none⟩)]] w fun e w' => e = .returned (.bool true) ∧ Below w.heap.size w w' := by
  have E := Lib.hid hc
  clear hc
  go_enter_defers Tryz.func71, Tryz.ntmps71
  go_wp2_with (go_at_call 117; refine E.out.mono ?_; rintro e w' ⟨rfl, hb⟩)
  refine leaves_cons (f := 92) (args := #[]) (by simp) (by simp [go_sem]) ?_
  refine (catch_idle _).mono ?_
  rintro e u' w'' ⟨rfl, rfl, rfl⟩
  exact ⟨_, results_tmp rfl _ _ _, rfl, hb⟩
set_option maxRecDepth 100000 in
set_option maxHeartbeats 2000000 in
theorem valid_ack (d : Int) (rv : Value) (n : Nat) (F T : Nat → Int) (w : World) (h0 : 0 ≤ d) (h1 : d ≤ 4611686018427387903) (hR : RgOk n F T) (hS : SpansAt w rv n F T) :
    Calls Tryz.prog 85 #[.agg (ackE d rv)] w fun e w' => e = .returned (.bool true) ∧ Below w.heap.size w w' := by
  have X := Lib.hid (box1 w (.cells (ackE d rv) 56))
  have E := Lib.hid (guard_any w.heap.size _ (vclos_any w.heap.size d rv n F T _ h0 h1 hR (hS.below X.out.2.1) X.out.1))
  have hmf : ∀ (fn : Fn) (first cap : Array Value) (w : World), (Instr.makeFunc fn first cap).run Tryz.prog w = .ok (.func fn first cap) w := fun _ _ _ _ => rfl
  clear hR hS
  unfold ackE at *
  go_enter Tryz.func85, Tryz.ntmps85
  go_wp2_with (go_at_call 71; refine E.out.mono ?_; rintro e w' ⟨rfl, hb⟩)
  go_ret
  exact ⟨rfl, btrans X.out.2.1 hb⟩
end Go.Proofs.YtpfkeohaaeiaaaaGreatDoor.frm
/- STREAM frames: Encode. -/
namespace Go.Proofs.YtpfkeohaaeiaaaaGreatDoor.frm
open Go.RowKit
set_option maxRecDepth 100000
set_option maxRecDepth 100000 in
set_option maxHeartbeats 2000000 in
theorem guard22 (b c : Nat) (w : World) (P : World → Prop) (hc : Calls Tryz.prog 72 #[.pointer (some ⟨b, 0, none⟩), .pointer (some ⟨c, 0, none⟩)] w fun e w' => e = .returned (.tuple #[]) ∧ P w') :
    Calls Tryz.prog 71 #[.func (.func 72) #[] #[.pointer (some ⟨b, 0, none⟩), .pointer (some ⟨c, 0, none⟩)]] w fun e w' => e = .returned (.bool true) ∧ P w' := by
  have E := Lib.hid hc
  clear hc
  go_enter_defers Tryz.func71, Tryz.ntmps71
  go_wp2_with (go_at_call 72; refine E.out.mono ?_; rintro e w' ⟨rfl, hb⟩)
  refine leaves_cons (f := 92) (args := #[]) (by simp) (by simp [go_sem]) ?_
  refine (catch_idle _).mono ?_
  rintro e u' w'' ⟨rfl, rfl, rfl⟩
  exact ⟨_, results_tmp rfl _ _ _, rfl, hb⟩
set_option maxRecDepth 100000 in
set_option maxHeartbeats 2000000 in
theorem guard24 (b c : Nat) (w : World) (P : World → Prop) (hc : Calls Tryz.prog 74 #[.pointer (some ⟨b, 0, none⟩), .pointer (some ⟨c, 0, none⟩)] w fun e w' => e = .returned (.tuple #[]) ∧ P w') :
    Calls Tryz.prog 71 #[.func (.func 74) #[] #[.pointer (some ⟨b, 0, none⟩), .pointer (some ⟨c, 0, none⟩)]] w fun e w' => e = .returned (.bool true) ∧ P w' := by
  have E := Lib.hid hc
  clear hc
  go_enter_defers Tryz.func71, Tryz.ntmps71
  go_wp2_with (go_at_call 74; refine E.out.mono ?_; rintro e w' ⟨rfl, hb⟩)
  refine leaves_cons (f := 92) (args := #[]) (by simp) (by simp [go_sem]) ?_
  refine (catch_idle _).mono ?_
  rintro e u' w'' ⟨rfl, rfl, rfl⟩
  exact ⟨_, results_tmp rfl _ _ _, rfl, hb⟩
/-- what a STREAM frame must be for Encode -/
structure SfOk (sid off : Int) (s : ByteArray) : Prop where
  a : 0 ≤ sid
  b : sid ≤ 4611686018427387903
  c : 0 ≤ off
  d : off + (s.size : Int) ≤ 1099511627776
  e : s.size ≤ 1024
set_option maxRecDepth 100000 in
set_option maxHeartbeats 2000000 in
theorem encl_any (b c : Nat) (sid off : Int) (s : ByteArray) (fin : Bool) (w : World) (hk : SfOk sid off s) (hb : w.heap[b]? = some (.cells (strE sid off s fin) 56 (0, 0))) (hc : w.heap[c]? = some (.cells #[.string ⟨#[]⟩] 9 (0, 0))) :
    Calls Tryz.prog 72 #[.pointer (some ⟨b, 0, none⟩), .pointer (some ⟨c, 0, none⟩)] w fun e w' => e = .returned (.tuple #[]) ∧ ∃ w1, Below w.heap.size w w1 ∧ w' = w1.setCell ⟨c, 0, none⟩ (.string (sfS sid off s fin)) := by
  have E := Lib.hid (encode_str sid off s fin w hk.a hk.b hk.c hk.d hk.e)
  have HB := Lib.hid hb
  have HC := Lib.hid hc
  clear hk hb hc
  generalize sfS sid off s fin = S at *
  unfold strE at *
  go_enter Tryz.func72, Tryz.ntmps72
  go_wp2_with (first | (refine wpList_load_row rfl 56 _ rfl b rfl 56 _ (0, 0) _ HB.out Tryz.underlying56 rfl size56s ?_) | (go_at_call 73; refine E.out.mono ?_; rintro e w1 ⟨rfl, hb⟩; have k0 := at_whole (heap_below hb HC.out) 0 rfl; have f0 := frozen_whole (heap_below hb HC.out) 0))
  go_end0
  exact ⟨rfl, w1, hb, rfl⟩
set_option maxRecDepth 100000 in
set_option maxHeartbeats 4000000 in
theorem Encode_any (sid off : Int) (s : ByteArray) (fin : Bool) (w : World) (hk : SfOk sid off s) :
    Calls Tryz.prog 54 #[.agg (strE sid off s fin)] w fun e w' => e = .returned (.tuple #[.string (sfS sid off s fin), .int .i64 0]) ∧ Below w.heap.size w w' := by
  have X := Lib.hid (box2 w (.cells (strE sid off s fin) 56) (.cells #[.string ⟨#[]⟩] 9))
  have E := Lib.hid (guard22 w.heap.size (w.heap.size + 1) _ _ (encl_any w.heap.size (w.heap.size + 1) sid off s fin _ hk X.out.1 X.out.2.1))
  have hmf : ∀ (fn : Fn) (first cap : Array Value) (w : World), (Instr.makeFunc fn first cap).run Tryz.prog w = .ok (.func fn first cap) w := fun _ _ _ _ => rfl
  clear hk
  generalize sfS sid off s fin = S at *
  unfold strE at *
  go_enter Tryz.func54, Tryz.ntmps54
  go_wp2_with fail
  refine E.out.mono ?_
  rintro e w2 ⟨rfl, w1, hb, rfl⟩
  have hz := X.out.2.2.2
  have HX := Lib.hid (heap_set (i := 0) (.string S) (heap_below hb X.out.2.1))
  have k0 := at_whole HX.out 0 rfl
  simp only [List.getElem_toArray, List.getElem_cons_zero, List.setIfInBounds_toArray, List.set_cons_zero] at k0
  have HB := Lib.hid (X.out.2.2.1.trans (hb.mono (by rw [hz]; omega)))
  clear hz hb
  go_wp2
  go_returns
  exact ⟨rfl, HB.out.setCell (p := ⟨w.heap.size + 1, 0, none⟩) (Nat.le_succ _) _⟩
end Go.Proofs.YtpfkeohaaeiaaaaGreatDoor.frm
/- STREAM frames: the reader, and the parts that read. -/
namespace Go.Proofs.YtpfkeohaaeiaaaaGreatDoor.frm
open Go.RowKit
set_option maxRecDepth 100000
/-- a reader's cells -/
def rdC (S : ByteArray) (a : Nat) : Array Value := #[.string S, .int .i64 a]
set_option maxRecDepth 100000 in
set_option maxHeartbeats 2000000 in
theorem rnum_any (R : Nat) (S : ByteArray) (a b : Nat) (n : Int) (w : World) (hs : S.size ≤ maxLen) (hd : decV (bytesOf S) a = (n, (b : Int), 0)) (h : w.heap[R]? = some (.cells (rdC S a) 133 (0, 0))) :
    Calls Tryz.prog 126 #[.pointer (some ⟨R, 0, none⟩)] w fun e w' => e = .returned (.int .i64 n) ∧ Blk R (rdC S b) 133 w w' := by
  have D := Lib.hid (fun wx => decode_any S (a : Int) wx hs)
  rw [hd] at D
  unfold trip rdC at *
  have r0 := at_whole h 0 rfl
  have r1 := at_whole h 1 rfl
  simp only [List.getElem_toArray, List.getElem_cons_zero, List.getElem_cons_succ] at r0 r1
  have H := Lib.hid h
  clear h hd hs
  go_enter Tryz.func126, Tryz.ntmps126
  go_wp2_with fail
  go_region_with (go_at_call 161; refine (D.out _).mono ?_; rintro e w2 ⟨rfl, hb⟩; have HB := Lib.hid hb; clear hb)
  all_goals
    have h2 := heap_below HB.out (show w.drew.heap[R]? = _ from H.out)
    have G := Lib.hid ((Blk.start H.out).trans ⟨h2, ⟨HB.out.os, HB.out.tape, HB.out.output, HB.out.size, fun k hk _ => HB.out.block k hk⟩⟩)
    have c1 := at_whole h2 1 rfl
    have f1 := frozen_whole h2 1
    simp only [List.getElem_toArray, List.getElem_cons_zero, List.getElem_cons_succ] at c1
    clear h2
    go_wp2
    go_ret
    exact ⟨rfl, G.out.set 1 _⟩
set_option maxRecDepth 100000 in
set_option maxHeartbeats 2000000 in
theorem rtake_any (R : Nat) (S : ByteArray) (a n : Nat) (w : World) (hs : S.size ≤ maxLen) (hn : a + n ≤ S.size) (h : w.heap[R]? = some (.cells (rdC S a) 133 (0, 0))) :
    Calls Tryz.prog 130 #[.pointer (some ⟨R, 0, none⟩), .int .i64 n] w fun e w' => e = .returned (.string (S.extract a (a + n))) ∧ Blk R (rdC S (a + n)) 133 w w' := by
  unfold rdC at *
  unfold maxLen at hs
  have r0 := at_whole h 0 rfl
  have r1 := at_whole h 1 rfl
  have f1 := frozen_whole h 1
  simp only [List.getElem_toArray, List.getElem_cons_zero, List.getElem_cons_succ] at r0 r1
  have H := Lib.hid h
  have e1 : IntKind.i64.wrap ((S.size : Int) - (a : Int)) = (S.size : Int) - (a : Int) := IntWalk.i64_in _ (by omega)
  have e2 : IntKind.i64.wrap ((a : Int) + (n : Int)) = (a : Int) + (n : Int) := IntWalk.i64_in _ (by omega)
  have e3 : IntKind.i64.wrap ((a : Int) + (n : Int) - (n : Int)) = (a : Int) := by rw [IntWalk.i64_in _ (by omega)]; omega
  have g1 : decide ((n : Int) > (S.size : Int) - (a : Int)) = false := decide_eq_false (by omega)
  have g2 : ((S.size : Int) - (a : Int) < (n : Int)) = False := eq_false (by omega)
  clear h
  go_enter Tryz.func130, Tryz.ntmps130
  go_wp2_with fail
  go_quiet (fail)
  go_wp2_with fail
  have G := Lib.hid (((Blk.start H.out).drewN nq).set 1 (.int .i64 ((a : Int) + (n : Int))))
  simp only [List.setIfInBounds_toArray, List.set_cons_zero, List.set_cons_succ] at G
  generalize World.setCell _ _ _ = W at G ⊢
  have q0 := at_whole G.out.1 0 rfl
  have q1 := at_whole G.out.1 1 rfl
  simp only [List.getElem_toArray, List.getElem_cons_zero, List.getElem_cons_succ] at q0 q1
  have t0 : ((a : Int) + (n : Int)).toNat = a + n := by omega
  have t1 : (a : Int) ≤ (a : Int) + (n : Int) := by omega
  have t2 : (a : Int) + (n : Int) ≤ (S.size : Int) := by omega
  have t3 : (0 : Int) ≤ (a : Int) := by omega
  clear r0 r1 f1
  go_quiet (fail)
  go_wp2
  go_ret
  have G2 := G.out
  rw [← Int.natCast_add] at G2
  exact ⟨rfl, G2.drewN _⟩
set_option maxRecDepth 100000 in
set_option maxHeartbeats 2000000 in
theorem get1_any (R f m : Nat) (S : ByteArray) (a b : Nat) (n : Int) (fc : Array Value) (w : World) (hs : S.size ≤ maxLen) (hd : decV (bytesOf S) a = (n, (b : Int), 0)) (h : w.heap[R]? = some (.cells (rdC S a) 133 (0, 0)))
    (hf : w.heap[f]? = some (.cells fc 56 (0, 0))) (hz : fc.size = 13) (c1 : w.cell? ⟨m + 1, 0, none⟩ = some (fnv 95)) :
    Calls Tryz.prog 125 #[.pointer (some ⟨R, 0, none⟩), .pointer (some ⟨f, 0, none⟩), .pointer (some ⟨m + 1, 0, none⟩)] w fun e w' => e = .returned (.tuple #[]) ∧ ∃ w1, Blk R (rdC S b) 133 w w1 ∧ w' = w1.setCell ⟨f, 1, none⟩ (.int .i64 n) := by
  unfold fnv at c1
  have hne : f ≠ R := fun e => by subst e; rw [h] at hf; cases hf
  have D := Lib.hid (rnum_any R S a b n w hs hd h)
  have HF := Lib.hid hf
  clear h hf hd hs
  go_enter Tryz.func125, Tryz.ntmps125
  go_wp2_with (first | (go_at_call 95; refine (fld1_any f _).mono ?_; rintro e w1 ⟨rfl, rfl⟩) | (go_at_call 126; refine D.out.mono ?_; rintro e w2 ⟨rfl, hb⟩; have h2 := heap_grown hb.2 HF.out hne; have k8 : w2.cell? ⟨f, 1, none⟩ = some fc[1] := (cell_whole h2 1).trans (by simp [hz]); have f8 := frozen_whole h2 1; have HB := Lib.hid hb; clear hb h2))
  go_end0
  exact ⟨rfl, w2, HB.out, rfl⟩
set_option maxRecDepth 100000 in
set_option maxHeartbeats 2000000 in
theorem get2_any (R f m : Nat) (S : ByteArray) (a b : Nat) (n : Int) (fc : Array Value) (w : World) (hs : S.size ≤ maxLen) (hd : decV (bytesOf S) a = (n, (b : Int), 0)) (h : w.heap[R]? = some (.cells (rdC S a) 133 (0, 0)))
    (hf : w.heap[f]? = some (.cells fc 56 (0, 0))) (hz : fc.size = 13) (c1 : w.cell? ⟨m + 1, 0, none⟩ = some (fnv 99)) :
    Calls Tryz.prog 125 #[.pointer (some ⟨R, 0, none⟩), .pointer (some ⟨f, 0, none⟩), .pointer (some ⟨m + 1, 0, none⟩)] w fun e w' => e = .returned (.tuple #[]) ∧ ∃ w1, Blk R (rdC S b) 133 w w1 ∧ w' = w1.setCell ⟨f, 2, none⟩ (.int .i64 n) := by
  unfold fnv at c1
  have hne : f ≠ R := fun e => by subst e; rw [h] at hf; cases hf
  have D := Lib.hid (rnum_any R S a b n w hs hd h)
  have HF := Lib.hid hf
  clear h hf hd hs
  go_enter Tryz.func125, Tryz.ntmps125
  go_wp2_with (first | (go_at_call 99; refine (fld2_any f _).mono ?_; rintro e w1 ⟨rfl, rfl⟩) | (go_at_call 126; refine D.out.mono ?_; rintro e w2 ⟨rfl, hb⟩; have h2 := heap_grown hb.2 HF.out hne; have k8 : w2.cell? ⟨f, 2, none⟩ = some fc[2] := (cell_whole h2 2).trans (by simp [hz]); have f8 := frozen_whole h2 2; have HB := Lib.hid hb; clear hb h2))
  go_end0
  exact ⟨rfl, w2, HB.out, rfl⟩
set_option maxRecDepth 100000 in
set_option maxHeartbeats 2000000 in
theorem getS_any (R f : Nat) (S : ByteArray) (a b n : Nat) (fc : Array Value) (w : World) (hs : S.size ≤ maxLen) (hd : decV (bytesOf S) a = ((n : Int), (b : Int), 0)) (hn : b + n ≤ S.size) (h : w.heap[R]? = some (.cells (rdC S a) 133 (0, 0)))
    (hf : w.heap[f]? = some (.cells fc 56 (0, 0))) (hz : fc.size = 13) :
    Calls Tryz.prog 129 #[.pointer (some ⟨R, 0, none⟩), .pointer (some ⟨f, 0, none⟩)] w fun e w' => e = .returned (.tuple #[]) ∧ ∃ w1, Blk R (rdC S (b + n)) 133 w w1 ∧ w' = w1.setCell ⟨f, 3, none⟩ (.string (S.extract b (b + n))) := by
  have hne : f ≠ R := fun e => by subst e; rw [h] at hf; cases hf
  have D := Lib.hid (rnum_any R S a b n w hs hd h)
  have T := Lib.hid (fun (w1 : World) (hb : Blk R (rdC S b) 133 w w1) => (rtake_any R S b n w1 hs hn hb.1).mono fun _ _ hh => (⟨hh.1, hb.trans hh.2⟩ : _ ∧ _))
  have HF := Lib.hid hf
  clear h hf hd hs
  go_enter Tryz.func129, Tryz.ntmps129
  go_wp2_with (first | (go_at_call 126; refine D.out.mono ?_; rintro e w1 ⟨rfl, hb⟩; have HB := Lib.hid hb; clear hb) | (go_at_call 130; refine (T.out _ HB.out).mono ?_; rintro e w2 ⟨rfl, hb⟩; have h2 := heap_grown hb.2 HF.out hne; have k8 : w2.cell? ⟨f, 3, none⟩ = some fc[3] := (cell_whole h2 3).trans (by simp [hz]); have f8 := frozen_whole h2 3; have HB2 := Lib.hid hb; clear hb h2))
  go_end0
  exact ⟨rfl, w2, HB2.out, rfl⟩
end Go.Proofs.YtpfkeohaaeiaaaaGreatDoor.frm
/- STREAM frames: what lies in the encoding; Decode's closure. Printed by gen/mkFSe.py. -/
namespace Go.Proofs.YtpfkeohaaeiaaaaGreatDoor.frm
open Go.RowKit
set_option maxRecDepth 100000
section
variable {sid off : Int} {s : ByteArray} {fin : Bool}
def sP1 (sid : Int) : Nat := 1 + (encV sid).length
def sP2 (sid off : Int) : Nat := sP1 sid + (encV off).length
def sP3 (sid off : Int) (s : ByteArray) : Nat := sP2 sid off + (encV s.size).length
theorem sfS_bytes (sid off : Int) (s : ByteArray) (fin : Bool) : bytesOf (sfS sid off s fin) = (if fin then 9 else 8) :: (encV sid ++ (encV off ++ (encV s.size ++ bytesOf s))) := by
  unfold sfS
  rw [bytesOf_append, bytesOf_append, bytesOf_append, bytesOf_append, bytes_of_nums _ (encV_range _), bytes_of_nums _ (encV_range _), bytes_of_nums _ (encV_range _), bytes_of_nums _ (by cases fin <;> decide)]
  simp
theorem cls_ok {n : Int} (h0 : 0 ≤ n) (h1 : n ≤ 4611686018427387903) : 0 ≤ cls n := by unfold cls; split; omega; split; omega; split; omega; split; omega; omega
theorem sfS_size (sid off : Int) (s : ByteArray) (fin : Bool) : (sfS sid off s fin).size = sP3 sid off s + s.size := by
  rw [← bytesOf_length, sfS_bytes]
  simp only [List.length_cons, List.length_append, bytesOf_length]
  unfold sP3 sP2 sP1; omega
theorem sfS_d1 (h : SfOk sid off s) : decV (bytesOf (sfS sid off s fin)) (1 : Nat) = (sid, (sP1 sid : Int), 0) := by
  have := decV_enc sid (cls_ok h.a h.b) [if fin then 9 else 8] (encV off ++ (encV s.size ++ bytesOf s))
  rw [sfS_bytes]
  rw [← encV_wid] at this
  simpa [sP1] using this
theorem sfS_d2 (h : SfOk sid off s) : decV (bytesOf (sfS sid off s fin)) (sP1 sid) = (off, (sP2 sid off : Int), 0) := by
  have h1 := h.d
  have := decV_enc off (cls_ok h.c (by omega)) ((if fin then 9 else 8) :: encV sid) (encV s.size ++ bytesOf s)
  rw [sfS_bytes]
  rw [← encV_wid] at this
  have e : ((if fin then (9 : Int) else 8) :: encV sid).length = sP1 sid := by simp [sP1]; omega
  rw [e] at this
  unfold sP2
  rw [Int.natCast_add]
  simpa using this
theorem sfS_d3 (h : SfOk sid off s) : decV (bytesOf (sfS sid off s fin)) (sP2 sid off) = ((s.size : Int), (sP3 sid off s : Int), 0) := by
  have h1 := h.e
  have := decV_enc (s.size : Int) (cls_ok (by omega) (by omega)) ((if fin then 9 else 8) :: (encV sid ++ encV off)) (bytesOf s)
  rw [sfS_bytes]
  rw [← encV_wid] at this
  have e : ((if fin then (9 : Int) else 8) :: (encV sid ++ encV off)).length = sP2 sid off := by simp [sP2, sP1]; omega
  rw [e] at this
  unfold sP3
  rw [Int.natCast_add]
  simpa using this
theorem sfS_text (sid off : Int) (s : ByteArray) (fin : Bool) : (sfS sid off s fin).extract (sP3 sid off s) (sP3 sid off s + s.size) = s := by
  have e : sfS sid off s fin = (((strOfNums [if fin then 9 else 8] ++ strOfNums (encV sid)) ++ strOfNums (encV off)) ++ strOfNums (encV s.size)) ++ s := by unfold sfS; rw [ByteArray.append_assoc (c := s)]
  have z : ((((strOfNums [if fin then 9 else 8] ++ strOfNums (encV sid)) ++ strOfNums (encV off)) ++ strOfNums (encV s.size))).size = sP3 sid off s := by
    simp only [ByteArray.size_append, strOf_size]
    unfold sP3 sP2 sP1; simp
  rw [e]
  exact ByteArray.extract_append_eq_right z.symm (by rw [z])
theorem sfS_head (sid off : Int) (s : ByteArray) (fin : Bool) : ∃ h : 0 < (sfS sid off s fin).size, (((sfS sid off s fin)[0]'h).toNat : Int) = if fin then 9 else 8 := by
  have h : 0 < (sfS sid off s fin).size := by rw [sfS_size]; unfold sP3 sP2 sP1; omega
  refine ⟨h, ?_⟩
  have := bytesOf_at (sfS sid off s fin) 0 h
  rw [sfS_bytes] at this
  simpa using this.symm
theorem sfS_small (h : SfOk sid off s) : (sfS sid off s fin).size ≤ 1049 := by
  have := h.e
  have := encV_len sid
  have := encV_len off
  have := encV_len s.size
  rw [sfS_size]; unfold sP3 sP2 sP1; omega
end
/-- only the blocks f and R have turned -/
structure Two (f R : Nat) (w w' : World) : Prop where
  os : w'.os = w.os
  tape : w'.tape = w.tape
  output : w'.output = w.output
  size : w.heap.size ≤ w'.heap.size
  block : ∀ k, k < w.heap.size → k ≠ f → k ≠ R → w'.heap[k]? = w.heap[k]?
theorem Two.refl (f R : Nat) (w : World) : Two f R w w := ⟨rfl, rfl, rfl, Nat.le_refl _, fun _ _ _ _ => rfl⟩
theorem Two.trans {f R : Nat} {a b c : World} (h : Two f R a b) (k : Two f R b c) : Two f R a c :=
  ⟨k.os.trans h.os, k.tape.trans h.tape, k.output.trans h.output, Nat.le_trans h.size k.size, fun j hj h1 h2 => (k.block j (Nat.lt_of_lt_of_le hj h.size) h1 h2).trans (h.block j hj h1 h2)⟩
theorem Two.below {f R : Nat} {a b c : World} (h : Two f R a b) (k : Below b.heap.size b c) : Two f R a c := h.trans ⟨k.os, k.tape, k.output, k.size, fun j hj _ _ => k.block j hj⟩
theorem Two.grown {f R : Nat} {a b c : World} (h : Two f R a b) (k : b.grownBy c (some R)) : Two f R a c := h.trans ⟨k.os, k.tape, k.output, k.size, fun j hj _ h2 => k.block j hj (fun e => h2 (by cases e; rfl))⟩
theorem Two.set {f R : Nat} {a b : World} (h : Two f R a b) (i : Nat) (v : Value) : Two f R a (b.setCell ⟨f, i, none⟩ v) :=
  ⟨h.os, h.tape, h.output, by simpa using h.size, fun j hj h1 h2 => (heap_setCell_other b _ j v (fun e => h1 (by first | exact e | exact e.symm))).trans (h.block j hj h1 h2)⟩
/-- behind w1: the frame's block, the reader's, the reader's variable -/
structure Db (w1 : World) (f R v : Nat) (S : ByteArray) (a : Nat) (fc : Array Value) (W : World) : Prop where
  two : Two f R w1 W
  hf : W.heap[f]? = some (.cells fc 56 (0, 0))
  hR : W.heap[R]? = some (.cells (rdC S a) 133 (0, 0))
  hv : W.heap[v]? = some (.cells #[.pointer (some ⟨R, 0, none⟩)] 131 (0, 0))
  hf1 : ∃ c, w1.heap[f]? = some (.cells c 56 (0, 0))
  hR1 : ∃ c, w1.heap[R]? = some (.cells c 133 (0, 0))
section
variable {w1 W W' : World} {f R v a : Nat} {S : ByteArray} {fc : Array Value}
theorem Db.below (h : Db w1 f R v S a fc W) (hb : Below W.heap.size W W') : Db w1 f R v S a fc W' := ⟨h.two.below hb, heap_below hb h.hf, heap_below hb h.hR, heap_below hb h.hv, h.hf1, h.hR1⟩
theorem Db.alloc (h : Db w1 f R v S a fc W) (o : Obj) : Db w1 f R v S a fc (W.alloc o) := h.below ((Below.refl _ _).alloc (Nat.le_refl _) _)
theorem Db.blk (h : Db w1 f R v S a fc W) {a' : Nat} (hb : Blk R (rdC S a') 133 W W') : Db w1 f R v S a' fc W' :=
  ⟨h.two.grown hb.2, heap_grown hb.2 h.hf (fun e => by subst e; have := h.hf; rw [h.hR] at this; cases this), hb.1, heap_grown hb.2 h.hv (fun e => by subst e; have := h.hv; rw [h.hR] at this; cases this), h.hf1, h.hR1⟩
theorem Db.set (h : Db w1 f R v S a fc W) (i : Nat) (x : Value) : Db w1 f R v S a (fc.setIfInBounds i x) (W.setCell ⟨f, i, none⟩ x) :=
  ⟨h.two.set i x, heap_set x h.hf, (heap_setCell_other W _ R x (fun e => by have e : f = R := (by first | exact e | exact e.symm); subst e; have := h.hf; rw [h.hR] at this; cases this)).trans h.hR, (heap_setCell_other W _ v x (fun e => by have e : f = v := (by first | exact e | exact e.symm); subst e; have := h.hf; rw [h.hv] at this; cases this)).trans h.hv, h.hf1, h.hR1⟩
theorem Db.old (h : Db w1 f R v S a fc W) {k : Nat} {cs : Array Value} {T : TypeId} (hk : w1.heap[k]? = some (.cells cs T (0, 0))) (h1 : T ≠ 56) (h2 : T ≠ 133) : W.heap[k]? = some (.cells cs T (0, 0)) := by
  refine (h.two.block k (heap_lt hk) (fun e => ?_) (fun e => ?_)).trans hk
  · subst e; obtain ⟨c, hc⟩ := h.hf1; rw [hk] at hc; cases hc; exact h1 rfl
  · subst e; obtain ⟨c, hc⟩ := h.hR1; rw [hk] at hc; cases hc; exact h2 rfl
end
set_option maxRecDepth 100000 in
set_option maxHeartbeats 8000000 in
theorem decl_any (f R v : Nat) (sid off : Int) (s : ByteArray) (fin : Bool) (w : World) (hk : SfOk sid off s) (hf : w.heap[f]? = some (.cells (strE 0 0 ⟨#[]⟩ fin) 56 (0, 0)))
    (hR : w.heap[R]? = some (.cells (rdC (sfS sid off s fin) 1) 133 (0, 0))) (hv : w.heap[v]? = some (.cells #[.pointer (some ⟨R, 0, none⟩)] 131 (0, 0))) :
    Calls Tryz.prog 74 #[.pointer (some ⟨f, 0, none⟩), .pointer (some ⟨v, 0, none⟩)] w fun e w' => e = .returned (.tuple #[]) ∧ Two f R w w' ∧ w'.heap[f]? = some (.cells (strE sid off s fin) 56 (0, 0)) ∧
      w'.heap[R]? = some (.cells (rdC (sfS sid off s fin) (sfS sid off s fin).size) 133 (0, 0)) := by
  have E := Lib.hid (fun wx => encode_str sid off s fin wx hk.a hk.b hk.c hk.d hk.e)
  have D1 := Lib.hid (sfS_d1 (fin := fin) hk)
  have D2 := Lib.hid (sfS_d2 (fin := fin) hk)
  have D3 := Lib.hid (sfS_d3 (fin := fin) hk)
  have DT := Lib.hid (sfS_text sid off s fin)
  have DZ := Lib.hid (sfS_size sid off s fin)
  have hsm : (sfS sid off s fin).size ≤ maxLen := by have := sfS_small (fin := fin) hk; unfold maxLen; omega
  have HSM := Lib.hid hsm
  have Q0 := Lib.hid (show ∀ w1, Below w.heap.size w w1 → Db w1 f R v (sfS sid off s fin) 1 (strE 0 0 ⟨#[]⟩ fin) w1 from fun w1 hb => ⟨Two.refl _ _ _, heap_below hb hf, heap_below hb hR, heap_below hb hv, ⟨_, heap_below hb hf⟩, ⟨_, heap_below hb hR⟩⟩)
  generalize sfS sid off s fin = S at *
  have y := at_whole hf 0 rfl
  have HY := Lib.hid (fun (w1 : World) (hb : Below w.heap.size w w1) => (show w1.cell? ⟨f, 0, none⟩ = some (.int .i64 8) from at_whole (heap_below hb hf) 0 rfl))
  clear hk hf hR hv hsm
  unfold strE at *
  simp only [List.getElem_toArray, List.getElem_cons_zero] at y
  go_enter Tryz.func74, Tryz.ntmps74
  go_wp2_with fail
  go_region_with ((go_at_call 75; refine (parts_str _).mono ?_; rintro e w1 ⟨M, g, n1, n5, n8, rfl, hb, hg, hn, -, hlook⟩; have hb2 := below_drew hb; have y1 := HY.out _ hb2; have HG := Lib.hid hn; have G1 := Lib.hid hg; have HB := Lib.hid hb2; clear hb hb2 hg hn))
  all_goals
    have E0 := Lib.hid (Q0.out _ HB.out)
    clear y1 hlook Q0 HY y
    go_wp2_with fail
    refine wp_loop_rounds 4 ?_
    rw [rounds_succ]
    have pa0 := at_whole (E0.out.old G1.out (by decide) (by decide)) 0 rfl
    have pb0 := at_whole (E0.out.old G1.out (by decide) (by decide)) 1 rfl
    have pc0 := at_whole (E0.out.old G1.out (by decide) (by decide)) 2 rfl
    simp only [intP, txtP, fnv] at pa0 pb0 pc0
    have EA0 := Lib.hid (E0.out.alloc (.cells (intP n1) 141))
    simp only [intP] at EA0
    have pv0 := at_whole EA0.out.hv 0 rfl
    simp only [List.getElem_toArray, List.getElem_cons_zero] at pv0
    go_wp2_with fail
    clear pv0
    generalize w1.alloc _ = WA0 at EA0 ⊢
    refine (get1_any R f n1 S (1) (sP1 sid) _ _ _ HSM.out D1.out EA0.out.hR EA0.out.hf rfl (at_whole (EA0.out.old HG.out.2.1 (by decide) (by decide)) 0 rfl)).mono ?_
    rintro e WB0 ⟨rfl, WC0, hb0, rfl⟩
    have EB0 := Lib.hid ((EA0.out.blk hb0).set 1 (.int .i64 sid))
    simp only [List.setIfInBounds_toArray, List.set_cons_zero, List.set_cons_succ] at EB0
    generalize WC0.setCell _ _ = WD0 at EB0 ⊢
    clear hb0 EA0 E0 pa0 pb0 pc0
    go_wp2_with fail
    rw [rounds_succ]
    have pa1 := at_whole (EB0.out.old G1.out (by decide) (by decide)) 3 rfl
    have pb1 := at_whole (EB0.out.old G1.out (by decide) (by decide)) 4 rfl
    have pc1 := at_whole (EB0.out.old G1.out (by decide) (by decide)) 5 rfl
    simp only [intP, txtP, fnv] at pa1 pb1 pc1
    have EA1 := Lib.hid (EB0.out.alloc (.cells (intP n5) 141))
    simp only [intP] at EA1
    have pv1 := at_whole EA1.out.hv 0 rfl
    simp only [List.getElem_toArray, List.getElem_cons_zero] at pv1
    go_wp2_with fail
    clear pv1
    generalize WD0.alloc _ = WA1 at EA1 ⊢
    refine (get2_any R f n5 S (sP1 sid) (sP2 sid off) _ _ _ HSM.out D2.out EA1.out.hR EA1.out.hf rfl (at_whole (EA1.out.old HG.out.2.2.2.1 (by decide) (by decide)) 0 rfl)).mono ?_
    rintro e WB1 ⟨rfl, WC1, hb1, rfl⟩
    have EB1 := Lib.hid ((EA1.out.blk hb1).set 2 (.int .i64 off))
    simp only [List.setIfInBounds_toArray, List.set_cons_zero, List.set_cons_succ] at EB1
    generalize WC1.setCell _ _ = WD1 at EB1 ⊢
    clear hb1 EA1 EB0 pa1 pb1 pc1
    go_wp2_with fail
    rw [rounds_succ]
    have pa2 := at_whole (EB1.out.old G1.out (by decide) (by decide)) 6 rfl
    have pb2 := at_whole (EB1.out.old G1.out (by decide) (by decide)) 7 rfl
    have pc2 := at_whole (EB1.out.old G1.out (by decide) (by decide)) 8 rfl
    simp only [intP, txtP, fnv] at pa2 pb2 pc2
    have EA2 := Lib.hid (EB1.out.alloc (.cells (txtP n8) 141))
    simp only [txtP, fnv] at EA2
    have pv2 := at_whole EA2.out.hv 0 rfl
    simp only [List.getElem_toArray, List.getElem_cons_zero] at pv2
    go_wp2_with fail
    clear pv2
    generalize WD1.alloc _ = WA2 at EA2 ⊢
    refine (getS_any R f S (sP2 sid off) (sP3 sid off s) s.size _ _ HSM.out D3.out (by rw [DZ.out]; exact Nat.le_refl _) EA2.out.hR EA2.out.hf rfl).mono ?_
    rintro e WB2 ⟨rfl, WC2, hb2, rfl⟩
    have EB2 := Lib.hid ((EA2.out.blk hb2).set 3 (.string (S.extract (sP3 sid off s) (sP3 sid off s + s.size))))
    simp only [List.setIfInBounds_toArray, List.set_cons_zero, List.set_cons_succ] at EB2
    generalize WC2.setCell _ _ = WD2 at EB2 ⊢
    clear hb2 EA2 EB1 pa2 pb2 pc2
    go_wp2_with fail
    rw [DT.out, ← DZ.out] at EB2
    rw [rounds_succ]
    go_wp2_with (first | (refine wpList_load_row rfl 56 _ rfl f rfl 56 _ (0, 0) _ EB2.out.hf Tryz.underlying56 rfl size56s ?_) | (go_at_call 73; refine (E.out _).mono ?_; rintro e W9 ⟨rfl, hb9⟩))
    go_end0
    have F := EB2.out.below hb9
    exact ⟨rfl, (Two.refl f R w).trans (Two.trans ⟨HB.out.os, HB.out.tape, HB.out.output, HB.out.size, fun k hk _ _ => HB.out.block k hk⟩ F.two), F.hf, F.hR⟩
end Go.Proofs.YtpfkeohaaeiaaaaGreatDoor.frm
/- STREAM frames: Decode. -/
namespace Go.Proofs.YtpfkeohaaeiaaaaGreatDoor.frm
open Go.RowKit
set_option maxRecDepth 100000
theorem box4 (w : World) (o0 o1 o2 o3 : Obj) : ((((w.alloc o0).alloc o1).alloc o2).alloc o3).heap[w.heap.size]? = some o0 ∧ ((((w.alloc o0).alloc o1).alloc o2).alloc o3).heap[w.heap.size + 1]? = some o1 ∧ ((((w.alloc o0).alloc o1).alloc o2).alloc o3).heap[w.heap.size + 1 + 1]? = some o2 ∧
    ((((w.alloc o0).alloc o1).alloc o2).alloc o3).heap[w.heap.size + 1 + 1 + 1]? = some o3 ∧ Below w.heap.size w ((((w.alloc o0).alloc o1).alloc o2).alloc o3) ∧ ((((w.alloc o0).alloc o1).alloc o2).alloc o3).heap.size = w.heap.size + 1 + 1 + 1 + 1 := by
  obtain ⟨a, a', a'', b, c⟩ := box3 w o0 o1 o2
  obtain ⟨d, e, f⟩ := box1 (((w.alloc o0).alloc o1).alloc o2) o3
  rw [c] at d f
  exact ⟨(e.block _ (by omega)).trans a, (e.block _ (by omega)).trans a', (e.block _ (by omega)).trans a'', d, b.trans (e.mono (by omega)), f⟩
theorem results_cell_tmp2 {P : Program} {fn : Func} {p q r : Tmp} {ty : TypeId} (h : fn.results = #[.cell p ty, .tmp q, .tmp r]) (tmps : Array Value) (w : World) (g : Nat) (t : TypeId) (cs : Array Value) (fr : Nat × Nat) (d : TypeDesc)
    (hp : tmps.getD p undef = .pointer (some ⟨g, 0, none⟩)) (hg : w.heap[g]? = some (.cells cs t fr))
    (hu : P.underlying ty = some d) (hd : (match d with | .struct _ | .array _ _ => true | _ => false) = true) (hi : (P.info? ty).map (·.size) = some cs.size) :
    (results fn tmps).run P w = .ok (.tuple #[.agg cs, tmps.getD q undef, tmps.getD r undef]) w := by
  have hp' : tmps[p]?.getD undef = .pointer (some ⟨g, 0, none⟩) := by simpa using hp
  simp [results, h, hp', asAddr, run_loadVar_row w g t ty cs fr d hg hu hd hi]
def strZ : Array Value := #[.int .i64 0, .int .i64 0, .int .i64 0, .string ⟨#[]⟩, .bool false, .int .i64 0, .int .i64 0, .bool false, .int .i64 0, .slice none 0 0, .int .i64 0, .int .i64 0, .string ⟨#[]⟩]
set_option maxRecDepth 100000 in
set_option maxHeartbeats 4000000 in
theorem DecodeF (sid off : Int) (s : ByteArray) (w : World) (hk : SfOk sid off s) :
    Calls Tryz.prog 55 #[.string (sfS sid off s false), .int .i64 0] w fun e w' => e = .returned (.tuple #[.agg (strE sid off s false), .int .i64 (sfS sid off s false).size, .int .i64 0]) ∧ Below w.heap.size w w' := by
  have X := Lib.hid (box4 w (.cells strZ 56) (.cells (strE 0 0 ⟨#[]⟩ false) 56) (.cells (rdC (sfS sid off s false) 1) 133) (.cells #[.pointer (some ⟨w.heap.size + 1 + 1, 0, none⟩)] 131))
  have E := Lib.hid (guard24 (w.heap.size + 1) (w.heap.size + 1 + 1 + 1) _ _ (decl_any (w.heap.size + 1) (w.heap.size + 1 + 1) (w.heap.size + 1 + 1 + 1) sid off s false _ hk X.out.2.1 X.out.2.2.1 X.out.2.2.2.1))
  have hmf : ∀ (fn : Fn) (first cap : Array Value) (w : World), (Instr.makeFunc fn first cap).run Tryz.prog w = .ok (.func fn first cap) w := fun _ _ _ _ => rfl
  obtain ⟨h0, hh⟩ := sfS_head sid off s false
  have hsm := sfS_small (fin := false) hk
  clear hk
  generalize sfS sid off s false = S at *
  simp only [Bool.false_eq_true, if_false] at hh
  unfold strE strZ rdC at *
  have z0 : ((S.size : Int) < 0) = False := eq_false (by omega)
  have z1 : ((0 : Int) = (S.size : Int)) = False := eq_false (by omega)
  have z2 : ((0 : Int) == (S.size : Int)) = false := by rw [beq_eq_false_iff_ne]; omega
  go_enter Tryz.func55, Tryz.ntmps55
  go_wp2_with fail
  refine E.out.mono ?_
  rintro e w2 ⟨rfl, T, hf, hR⟩
  have hz := X.out.2.2.2.2.2
  have hZ := Lib.hid ((T.block w.heap.size (by omega) (by omega) (by omega)).trans X.out.1)
  have hV := (T.block (w.heap.size + 1 + 1 + 1) (by omega) (by omega) (by omega)).trans X.out.2.2.2.1
  have HF := Lib.hid hf
  have HB : Hid (Below w.heap.size w w2) := Lib.hid (X.out.2.2.2.2.1.trans ⟨T.os, T.tape, T.output, T.size, fun k hk => T.block k (by omega) (by omega) (by omega)⟩)
  have r1 := at_whole hR 1 rfl
  have v0 := at_whole hV 0 rfl
  simp only [List.getElem_toArray, List.getElem_cons_zero, List.getElem_cons_succ] at r1 v0
  clear hf hR hV hz T hh z0 z1 z2 X E hmf
  go_wp2_with fail
  have y0 := at_whole HF.out 0 rfl
  have y1 := at_whole HF.out 1 rfl
  have y2 := at_whole HF.out 2 rfl
  have y3 := at_whole HF.out 3 rfl
  have y4 := at_whole HF.out 4 rfl
  have y5 := at_whole HF.out 5 rfl
  have y6 := at_whole HF.out 6 rfl
  have y7 := at_whole HF.out 7 rfl
  have y8 := at_whole HF.out 8 rfl
  have y9 := at_whole HF.out 9 rfl
  have y10 := at_whole HF.out 10 rfl
  have y11 := at_whole HF.out 11 rfl
  have y12 := at_whole HF.out 12 rfl
  simp only [List.getElem_toArray, List.getElem_cons_zero, List.getElem_cons_succ] at y0 y1 y2 y3 y4 y5 y6 y7 y8 y9 y10 y11 y12
  have x0 := at_whole hZ.out 0 rfl
  have k0 := frozen_whole hZ.out 0
  have x1 := at_whole hZ.out 1 rfl
  have k1 := frozen_whole hZ.out 1
  have x2 := at_whole hZ.out 2 rfl
  have k2 := frozen_whole hZ.out 2
  have x3 := at_whole hZ.out 3 rfl
  have k3 := frozen_whole hZ.out 3
  have x4 := at_whole hZ.out 4 rfl
  have k4 := frozen_whole hZ.out 4
  have x5 := at_whole hZ.out 5 rfl
  have k5 := frozen_whole hZ.out 5
  have x6 := at_whole hZ.out 6 rfl
  have k6 := frozen_whole hZ.out 6
  have x7 := at_whole hZ.out 7 rfl
  have k7 := frozen_whole hZ.out 7
  have x8 := at_whole hZ.out 8 rfl
  have k8 := frozen_whole hZ.out 8
  have x9 := at_whole hZ.out 9 rfl
  have k9 := frozen_whole hZ.out 9
  have x10 := at_whole hZ.out 10 rfl
  have k10 := frozen_whole hZ.out 10
  have x11 := at_whole hZ.out 11 rfl
  have k11 := frozen_whole hZ.out 11
  have x12 := at_whole hZ.out 12 rfl
  have k12 := frozen_whole hZ.out 12
  simp only [List.getElem_toArray, List.getElem_cons_zero, List.getElem_cons_succ] at x0 x1 x2 x3 x4 x5 x6 x7 x8 x9 x10 x11 x12
  go_region
  have G := ((((((((((((((Blk.start (show w2.heap[w.heap.size]? = some (.cells _ 56 (0, 0)) from hZ.out)).set 0 (.int .i64 8)).set 1 (.int .i64 sid)).set 2 (.int .i64 off)).set 3 (.string s)).set 4 (.bool false)).set 5 (.int .i64 0)).set 6 (.int .i64 0)).set 7 (.bool false)).set 8 (.int .i64 0)).set 9 (.slice none 0 0)).set 10 (.int .i64 0)).set 11 (.int .i64 0)).set 12 (.string ⟨#[]⟩))
  simp only [List.setIfInBounds_toArray, List.set_cons_zero, List.set_cons_succ] at G
  have HG := Lib.hid (And.intro G.drew.1 (below_grown HB.out G.drew.2 (Nat.le_refl _)))
  clear G
  generalize (World.drew (World.setCell _ _ _)) = W at HG ⊢
  go_wp2
  refine bodyPost_ret (results_cell_tmp2 rfl _ _ _ 56 _ (0, 0) _ rfl HG.out.1 Tryz.underlying56 rfl size56s) rfl ⟨rfl, HG.out.2⟩
set_option maxRecDepth 100000 in
set_option maxHeartbeats 4000000 in
theorem DecodeT (sid off : Int) (s : ByteArray) (w : World) (hk : SfOk sid off s) :
    Calls Tryz.prog 55 #[.string (sfS sid off s true), .int .i64 0] w fun e w' => e = .returned (.tuple #[.agg (strE sid off s true), .int .i64 (sfS sid off s true).size, .int .i64 0]) ∧ Below w.heap.size w w' := by
  have X := Lib.hid (box4 w (.cells strZ 56) (.cells (strE 0 0 ⟨#[]⟩ true) 56) (.cells (rdC (sfS sid off s true) 1) 133) (.cells #[.pointer (some ⟨w.heap.size + 1 + 1, 0, none⟩)] 131))
  have E := Lib.hid (guard24 (w.heap.size + 1) (w.heap.size + 1 + 1 + 1) _ _ (decl_any (w.heap.size + 1) (w.heap.size + 1 + 1) (w.heap.size + 1 + 1 + 1) sid off s true _ hk X.out.2.1 X.out.2.2.1 X.out.2.2.2.1))
  have hmf : ∀ (fn : Fn) (first cap : Array Value) (w : World), (Instr.makeFunc fn first cap).run Tryz.prog w = .ok (.func fn first cap) w := fun _ _ _ _ => rfl
  obtain ⟨h0, hh⟩ := sfS_head sid off s true
  have hsm := sfS_small (fin := true) hk
  clear hk
  generalize sfS sid off s true = S at *
  simp only [if_true] at hh
  unfold strE strZ rdC at *
  have z0 : ((S.size : Int) < 0) = False := eq_false (by omega)
  have z1 : ((0 : Int) = (S.size : Int)) = False := eq_false (by omega)
  have z2 : ((0 : Int) == (S.size : Int)) = false := by rw [beq_eq_false_iff_ne]; omega
  go_enter Tryz.func55, Tryz.ntmps55
  go_wp2_with fail
  refine E.out.mono ?_
  rintro e w2 ⟨rfl, T, hf, hR⟩
  have hz := X.out.2.2.2.2.2
  have hZ := Lib.hid ((T.block w.heap.size (by omega) (by omega) (by omega)).trans X.out.1)
  have hV := (T.block (w.heap.size + 1 + 1 + 1) (by omega) (by omega) (by omega)).trans X.out.2.2.2.1
  have HF := Lib.hid hf
  have HB : Hid (Below w.heap.size w w2) := Lib.hid (X.out.2.2.2.2.1.trans ⟨T.os, T.tape, T.output, T.size, fun k hk => T.block k (by omega) (by omega) (by omega)⟩)
  have r1 := at_whole hR 1 rfl
  have v0 := at_whole hV 0 rfl
  simp only [List.getElem_toArray, List.getElem_cons_zero, List.getElem_cons_succ] at r1 v0
  clear hf hR hV hz T hh z0 z1 z2 X E hmf
  go_wp2_with fail
  have y0 := at_whole HF.out 0 rfl
  have y1 := at_whole HF.out 1 rfl
  have y2 := at_whole HF.out 2 rfl
  have y3 := at_whole HF.out 3 rfl
  have y4 := at_whole HF.out 4 rfl
  have y5 := at_whole HF.out 5 rfl
  have y6 := at_whole HF.out 6 rfl
  have y7 := at_whole HF.out 7 rfl
  have y8 := at_whole HF.out 8 rfl
  have y9 := at_whole HF.out 9 rfl
  have y10 := at_whole HF.out 10 rfl
  have y11 := at_whole HF.out 11 rfl
  have y12 := at_whole HF.out 12 rfl
  simp only [List.getElem_toArray, List.getElem_cons_zero, List.getElem_cons_succ] at y0 y1 y2 y3 y4 y5 y6 y7 y8 y9 y10 y11 y12
  have x0 := at_whole hZ.out 0 rfl
  have k0 := frozen_whole hZ.out 0
  have x1 := at_whole hZ.out 1 rfl
  have k1 := frozen_whole hZ.out 1
  have x2 := at_whole hZ.out 2 rfl
  have k2 := frozen_whole hZ.out 2
  have x3 := at_whole hZ.out 3 rfl
  have k3 := frozen_whole hZ.out 3
  have x4 := at_whole hZ.out 4 rfl
  have k4 := frozen_whole hZ.out 4
  have x5 := at_whole hZ.out 5 rfl
  have k5 := frozen_whole hZ.out 5
  have x6 := at_whole hZ.out 6 rfl
  have k6 := frozen_whole hZ.out 6
  have x7 := at_whole hZ.out 7 rfl
  have k7 := frozen_whole hZ.out 7
  have x8 := at_whole hZ.out 8 rfl
  have k8 := frozen_whole hZ.out 8
  have x9 := at_whole hZ.out 9 rfl
  have k9 := frozen_whole hZ.out 9
  have x10 := at_whole hZ.out 10 rfl
  have k10 := frozen_whole hZ.out 10
  have x11 := at_whole hZ.out 11 rfl
  have k11 := frozen_whole hZ.out 11
  have x12 := at_whole hZ.out 12 rfl
  have k12 := frozen_whole hZ.out 12
  simp only [List.getElem_toArray, List.getElem_cons_zero, List.getElem_cons_succ] at x0 x1 x2 x3 x4 x5 x6 x7 x8 x9 x10 x11 x12
  go_region
  have G := ((((((((((((((Blk.start (show w2.heap[w.heap.size]? = some (.cells _ 56 (0, 0)) from hZ.out)).set 0 (.int .i64 8)).set 1 (.int .i64 sid)).set 2 (.int .i64 off)).set 3 (.string s)).set 4 (.bool true)).set 5 (.int .i64 0)).set 6 (.int .i64 0)).set 7 (.bool false)).set 8 (.int .i64 0)).set 9 (.slice none 0 0)).set 10 (.int .i64 0)).set 11 (.int .i64 0)).set 12 (.string ⟨#[]⟩))
  simp only [List.setIfInBounds_toArray, List.set_cons_zero, List.set_cons_succ] at G
  have HG := Lib.hid (And.intro G.drew.1 (below_grown HB.out G.drew.2 (Nat.le_refl _)))
  clear G
  generalize (World.drew (World.setCell _ _ _)) = W at HG ⊢
  go_wp2
  refine bodyPost_ret (results_cell_tmp2 rfl _ _ _ 56 _ (0, 0) _ rfl HG.out.1 Tryz.underlying56 rfl size56s) rfl ⟨rfl, HG.out.2⟩
theorem Decode_any (sid off : Int) (s : ByteArray) (fin : Bool) (w : World) (hk : SfOk sid off s) :
    Calls Tryz.prog 55 #[.string (sfS sid off s fin), .int .i64 0] w fun e w' => e = .returned (.tuple #[.agg (strE sid off s fin), .int .i64 (sfS sid off s fin).size, .int .i64 0]) ∧ Below w.heap.size w w' := by
  cases fin
  · exact DecodeF sid off s w hk
  · exact DecodeT sid off s w hk
end Go.Proofs.YtpfkeohaaeiaaaaGreatDoor.frm
