/- Texts Tkh Tki Tkj of this claim, one behind the other. -/
import Derived.Test.YtpfkeohaaeiaaaaGreatMs5
import Derived.Test.YtpfkeohaaeiaaaaGreatMs6
import Derived.Test.YtpfkeohaaeiaaaaGreatMs7
import Derived.Laws.MakeOwn
import Derived.Deep.AppendLies
/- Law 13: Frame of a Tracker: the ACK frame. -/
namespace Go.Proofs.YtpfkeohaaeiaaaaGreat
open Go.RowKit Go.Sort Go.Shelf
attribute [local go_sem] Oper.semAt_some
variable {zs : List Int} {n : Nat} {top lg wh few : Int}
/-- the ranges when k intervals are laid: the last places are filled -/
def rowK (zs : List Int) (n k : Nat) : List (Int × Int) := (List.range n).map (fun j => if n - k ≤ j then (zg zs ((n - 1 - j) * 2), zg zs ((n - 1 - j) * 2 + 1)) else (0, 0))
theorem rowK_len (zs : List Int) (n k : Nat) : (rowK zs n k).length = n := by simp [rowK]
theorem rowK_zero (zs : List Int) (n : Nat) : rowK zs n 0 = List.replicate n (0, 0) := by
  apply List.ext_getElem (by simp [rowK])
  intro j h1 h2
  simp [rowK] at h1 ⊢
  omega
theorem rowK_succ (zs : List Int) (n k : Nat) (hk : k < n) : rowK zs n (k + 1) = (rowK zs n k).set (n - 1 - k) (zg zs (k * 2), zg zs (k * 2 + 1)) := by
  apply List.ext_getElem (by simp [rowK])
  intro j h1 h2
  simp only [rowK, List.length_map, List.length_range] at h1
  rw [List.getElem_set]
  simp only [rowK, List.getElem_map, List.getElem_range]
  by_cases hj : n - 1 - k = j
  · rw [if_pos hj, if_pos (by omega)]
    rw [show n - 1 - j = k by omega]
  · rw [if_neg hj]
    by_cases h3 : n - k ≤ j
    · rw [if_pos h3, if_pos (by omega)]
    · rw [if_neg h3, if_neg (by omega)]
theorem scs_set (l : List (Int × Int)) (j : Nat) (x y : Int) (hj : j < l.length) : scs (l.set j (x, y)) = ((scs l).set (j * 2) (.int .i64 x)).set (j * 2 + 1) (.int .i64 y) := by
  induction l generalizing j with
  | nil => simp at hj
  | cons p l ih =>
    cases j with
    | zero => rfl
    | succ j =>
      have e1 : (j + 1) * 2 = j * 2 + 2 := by omega
      rw [e1]
      show [_, _] ++ scs (l.set j (x, y)) = _
      rw [ih j (by simpa using hj)]
      rfl
theorem scs_rep (n : Nat) : scs (List.replicate n (0, 0)) = List.replicate (n * 2) (.int .i64 0) := by
  induction n with
  | zero => rfl
  | succ n ih =>
    rw [List.replicate_succ, show (n + 1) * 2 = n * 2 + 2 by omega]
    show [_, _] ++ scs (List.replicate n (0, 0)) = _
    rw [ih]; rfl
theorem results_cell_tmpS {P : Program} {fn : Func} {p q : Tmp} {ty : TypeId} (h : fn.results = #[.cell p ty, .tmp q]) (tmps : Array Value) (w : World) (g : Nat) (t : TypeId) (cs : Array Value) (fr : Nat × Nat) (d : TypeDesc)
    (hp : tmps.getD p undef = .pointer (some ⟨g, 0, none⟩)) (hg : w.heap[g]? = some (.cells cs t fr))
    (hu : P.underlying ty = some d) (hd : (match d with | .struct _ | .array _ _ => true | _ => false) = true) (hi : (P.info? ty).map (·.size) = some cs.size) :
    (results fn tmps).run P w = .ok (.tuple #[.agg cs, tmps.getD q undef]) w := by
  have hp' : tmps[p]?.getD undef = .pointer (some ⟨g, 0, none⟩) := by simpa using hp
  simp [results, h, hp', asAddr, run_loadVar_row w g t ty cs fr d hg hu hd hi]
theorem boxes4 (w : World) (o1 o2 o3 o4 : Obj) : ((((w.alloc o1).alloc o2).alloc o3).alloc o4).heap[w.heap.size]? = some o1 ∧ ((((w.alloc o1).alloc o2).alloc o3).alloc o4).heap[w.heap.size + 1]? = some o2 ∧ ((((w.alloc o1).alloc o2).alloc o3).alloc o4).heap[w.heap.size + 2]? = some o3 ∧
    ((((w.alloc o1).alloc o2).alloc o3).alloc o4).heap[w.heap.size + 3]? = some o4 ∧ Below w.heap.size w ((((w.alloc o1).alloc o2).alloc o3).alloc o4) ∧ ((((w.alloc o1).alloc o2).alloc o3).alloc o4).heap.size = w.heap.size + 4 := by
  obtain ⟨_, h1, h2, h3, h4, h5⟩ := boxes3 w o1 o2 o3
  refine ⟨?_, ?_, ?_, ?_, h4.alloc h4.size _, by simp⟩
  · exact (Below.heap_alloc _ _ _ (heap_lt h1)).trans h1
  · exact (Below.heap_alloc _ _ _ (heap_lt h2)).trans h2
  · exact (Below.heap_alloc _ _ _ (heap_lt h3)).trans h3
  · have := heap_alloc_new (((w.alloc o1).alloc o2).alloc o3) o4
    rwa [h5] at this
theorem boxes5 (w : World) (o1 o2 o3 o4 o5 : Obj) : (((((w.alloc o1).alloc o2).alloc o3).alloc o4).alloc o5).heap[w.heap.size]? = some o1 ∧ (((((w.alloc o1).alloc o2).alloc o3).alloc o4).alloc o5).heap[w.heap.size + 1]? = some o2 ∧ (((((w.alloc o1).alloc o2).alloc o3).alloc o4).alloc o5).heap[w.heap.size + 1 + 1]? = some o3 ∧
    (((((w.alloc o1).alloc o2).alloc o3).alloc o4).alloc o5).heap[w.heap.size + 1 + 1 + 1]? = some o4 ∧ (((((w.alloc o1).alloc o2).alloc o3).alloc o4).alloc o5).heap[w.heap.size + 1 + 1 + 1 + 1]? = some o5 ∧ Below w.heap.size w (((((w.alloc o1).alloc o2).alloc o3).alloc o4).alloc o5) ∧ (((((w.alloc o1).alloc o2).alloc o3).alloc o4).alloc o5).heap.size = w.heap.size + 5 := by
  obtain ⟨h1, h2, h3, h4, h5, h6⟩ := boxes4 w o1 o2 o3 o4
  refine ⟨(Below.heap_alloc _ _ _ (heap_lt h1)).trans h1, (Below.heap_alloc _ _ _ (heap_lt h2)).trans h2, (Below.heap_alloc _ _ _ (heap_lt h3)).trans h3, (Below.heap_alloc _ _ _ (heap_lt h4)).trans h4, ?_, h5.alloc h5.size _, by simp⟩
  have := heap_alloc_new ((((w.alloc o1).alloc o2).alloc o3).alloc o4) o5
  rwa [h6] at this
theorem scs_length (l : List (Int × Int)) : (scs l).length = l.length * 2 := by
  induction l with
  | nil => rfl
  | cons p l ih => show ([_, _] ++ scs l).length = _; simp [ih]; omega
/-- the ranges when the intervals of pre are laid -/
def rowP (zs : List Int) (n : Nat) (pre : List (Nat × Int × Int)) : List (Int × Int) := pre.foldl (fun r x => r.set (n - 1 - x.1) x.2) (rowK zs n 0)
theorem rowP_snoc (zs : List Int) (n : Nat) (pre : List (Nat × Int × Int)) (x : Nat × Int × Int) : rowP zs n (pre ++ [x]) = (rowP zs n pre).set (n - 1 - x.1) x.2 := by simp [rowP]
theorem rowP_len (zs : List Int) (n : Nat) (pre : List (Nat × Int × Int)) : (rowP zs n pre).length = n := by
  unfold rowP
  generalize hr : rowK zs n 0 = r
  have h : r.length = n := by rw [← hr]; exact rowK_len _ _ _
  clear hr
  induction pre generalizing r with
  | nil => exact h
  | cons x l ih => exact ih _ (by rw [List.length_set]; exact h)
theorem rowP_ivs (zs : List Int) (n k : Nat) (hk : k ≤ n) : rowP zs n (ivs zs k) = rowK zs n k := by
  induction k with
  | zero => rfl
  | succ k ih =>
    rw [ivs_succ, rowP_snoc, ih (by omega), rowK_succ _ _ _ (by omega)]
    rfl
theorem mem_ivs {zs : List Int} {n : Nat} {x : Nat × Int × Int} (h : x ∈ ivs zs n) : x.1 < n := by
  obtain ⟨k, hk, rfl⟩ := List.mem_map.1 h
  exact List.mem_range.1 hk
/-- the frame that is returned -/
def FrPost (zs : List Int) (n : Nat) (dl : Int) (w : World) (e : Ending) (w' : World) : Prop :=
  ∃ g, e = .returned (.tuple #[.agg (ackE dl (.slice (some ⟨g, 0, none⟩) n n)), .bool true]) ∧ w'.ownsRow w.heap.size 54 2 (.slice (some ⟨g, 0, none⟩) n n) n (scs (rowK zs n n)) ∧ Below w.heap.size w w'
set_option maxRecDepth 100000 in
set_option maxHeartbeats 4000000 in
/-- nothing has come: no frame -/
theorem frame_none (t : Nat) (now : Int) (w : World) (hT : TkAt w t zs) (hm : zg zs 34 = 0) :
    Calls Tryz.prog 13 #[.pointer (some ⟨t, 0, none⟩), .int .i64 now] w fun e w' => (∃ v, e = .returned (.tuple #[.agg v, .bool false]) ∧ v = #[.int .i64 0, .int .i64 0, .int .i64 0, .string ⟨#[]⟩, .bool false, .int .i64 0, .int .i64 0, .bool false, .int .i64 0, .slice none 0 0, .int .i64 0, .int .i64 0, .string ⟨#[]⟩]) ∧ Below w.heap.size w w' := by
  have y34 := cell_alloc_l (.cells #[.int .i64 0, .int .i64 0, .int .i64 0, .string ⟨#[]⟩, .bool false, .int .i64 0, .int .i64 0, .bool false, .int .i64 0, .slice none 0 0, .int .i64 0, .int .i64 0, .string ⟨#[]⟩] 43) (cell_alloc_l (.cells #[.pointer (some ⟨t, 0, none⟩)] 29) (hT.zg 34 (by decide) hm))
  clear hT hm
  have BB : Hid (Below w.heap.size w ((w.alloc (.cells #[.pointer (some ⟨t, 0, none⟩)] 29)).alloc (.cells #[.int .i64 0, .int .i64 0, .int .i64 0, .string ⟨#[]⟩, .bool false, .int .i64 0, .int .i64 0, .bool false, .int .i64 0, .slice none 0 0, .int .i64 0, .int .i64 0, .string ⟨#[]⟩] 43))) := Lib.hid (((Below.refl _ w).alloc (Nat.le_refl _) _).alloc (by simp) _)
  go_enter Tryz.func13, Tryz.ntmps13
  go_wp2
  refine bodyPost_ret (results_cell_tmpS rfl _ _ (w.heap.size + 1) 43 _ (0, 0) _ rfl (by have := heap_alloc_new (w.alloc (.cells #[.pointer (some ⟨t, 0, none⟩)] 29)) (.cells #[.int .i64 0, .int .i64 0, .int .i64 0, .string ⟨#[]⟩, .bool false, .int .i64 0, .int .i64 0, .bool false, .int .i64 0, .slice none 0 0, .int .i64 0, .int .i64 0, .string ⟨#[]⟩] 43); rw [World.size_alloc] at this; exact this) Tryz.underlying43 rfl (by kernel_rfl)) rfl ?_
  exact ⟨⟨_, rfl, rfl⟩, BB.out⟩
theorem mk_row (zs : List Int) (n : Nat) (h1 : 1 ≤ n) (hn : n ≤ 16) : ∀ w : World, (Instr.makeSlice 41 (.int .i64 n) (.int .i64 n)).run Tryz.prog w = .ok (.slice (some ⟨w.heap.size, 0, none⟩) n n) (w.alloc (.cells (scs (rowK zs n 0)).toArray 54)) := by
  rw [rowK_zero, scs_rep]
  have : n = 1 ∨ n = 2 ∨ n = 3 ∨ n = 4 ∨ n = 5 ∨ n = 6 ∨ n = 7 ∨ n = 8 ∨ n = 9 ∨ n = 10 ∨ n = 11 ∨ n = 12 ∨ n = 13 ∨ n = 14 ∨ n = 15 ∨ n = 16 := by omega
  rcases this with rfl | rfl | rfl | rfl | rfl | rfl | rfl | rfl | rfl | rfl | rfl | rfl | rfl | rfl | rfl | rfl <;> (intro w; kernel_rfl)
set_option maxRecDepth 100000 in
set_option maxHeartbeats 4000000 in
theorem frame_any (t : Nat) (now : Int) (w : World) (hT : TkAt w t zs) (ok : TkOk zs n top lg wh few) (hn : 1 ≤ n) (hn1 : 0 ≤ now) (hn2 : now ≤ 1099511627776) (hwh : 0 ≤ wh) (hwh2 : wh ≤ 1099511627776) :
    Calls Tryz.prog 13 #[.pointer (some ⟨t, 0, none⟩), .int .i64 now] w (FrPost zs n (if wh < now then now - wh else 0) w) := by
  have hn16 := ok.le
  have MK := mk_row zs n hn hn16
  have c34 := hT.zg 34 (by decide) ok.many
  have c38 := hT.zg 38 (by decide) ok.wh
  obtain ⟨row, hrow⟩ : ∃ row, row = (scs (rowK zs n 0)).toArray := ⟨_, rfl⟩
  rw [← hrow] at MK
  have HR := Lib.hid hrow
  clear hrow
  have X := Lib.hid (boxes4 w (.cells #[.pointer (some ⟨t, 0, none⟩)] 29) (.cells #[.int .i64 0, .int .i64 0, .int .i64 0, .string ⟨#[]⟩, .bool false, .int .i64 0, .int .i64 0, .bool false, .int .i64 0, .slice none 0 0, .int .i64 0, .int .i64 0, .string ⟨#[]⟩] 43) (.cells row 54) (.cells (ackE 0 (.slice (some ⟨w.heap.size + 2, 0, none⟩) n n)) 43))
  have hlt := hT.lt
  have fn : ∀ o : Obj, Hid (∀ i v, w.cell? ⟨t, i, none⟩ = some v → (w.alloc o).cell? ⟨t, i, none⟩ = some v) := fun o => Lib.hid (fun i v h => cell_alloc_l o h)
  have y34 := cell_alloc_l (.cells #[.int .i64 0, .int .i64 0, .int .i64 0, .string ⟨#[]⟩, .bool false, .int .i64 0, .int .i64 0, .bool false, .int .i64 0, .slice none 0 0, .int .i64 0, .int .i64 0, .string ⟨#[]⟩] 43) (cell_alloc_l (.cells #[.pointer (some ⟨t, 0, none⟩)] 29) c34)
  have y38 := cell_alloc_l (.cells (ackE 0 (.slice (some ⟨w.heap.size + 2, 0, none⟩) n n)) 43) (cell_alloc_l (.cells row 54) (cell_alloc_l (.cells #[.int .i64 0, .int .i64 0, .int .i64 0, .string ⟨#[]⟩, .bool false, .int .i64 0, .int .i64 0, .bool false, .int .i64 0, .slice none 0 0, .int .i64 0, .int .i64 0, .string ⟨#[]⟩] 43) (cell_alloc_l (.cells #[.pointer (some ⟨t, 0, none⟩)] 29) c38)))
  simp only [ackE] at y38
  have HT := Lib.hid (And.intro hT ok)
  have n0 : ((n : Int) == 0) = false := beq_eq_false_iff_ne.2 (by omega)
  clear hT ok c34 c38 fn
  refine (callsIn_wide (n := 8)).1 ?_
  refine callsIn_of_wp_marks Tryz.func13 rfl trivial ?_ rfl
  simp only [Tryz.ntmps13, List.size_toArray, List.length_cons, List.length_nil, Nat.reduceAdd, Nat.reduceSub, Array.replicate_succ, Array.replicate_zero, List.push_toArray, List.append_toArray, List.nil_append, List.cons_append]
  by_cases hd : wh < now
  · rw [if_pos hd]
    gi_wp2_with (refine ⟨trivial, (callsIn_wide.2 (all62 _ _)).mono ?_⟩; rintro e w' ⟨rfl, rfl⟩)
    generalize hW0 : ((((w.alloc _).alloc _).alloc _).alloc _).alloc _ = W0
    have X := Lib.hid (hW0 ▸ boxes5 w _ _ _ _ _)
    clear hW0
    obtain ⟨X0, X1, X2, X3, X4, X5, X6⟩ := X.out
    have HB := Lib.hid (And.intro X5 X6)
    clear X y34 y38
    refine wpIn_rangeFunc_ownH rfl (by decide) (gf := 48) (lb := #[.pointer (some ⟨w.heap.size + 1 + 1 + 1 + 1, 0, none⟩)]) rfl trivial (enters_of Tryz.func48 (by kernel_rfl) rfl)
      (iv_stopsS 7 (by decide) (w.heap.size + 1 + 1 + 1 + 1) t n zs (by omega) W0 (by have := HB.out.2; omega) (at_whole X4 0 rfl) (HT.out.1.block (HB.out.1.block t HT.out.1.lt)) HT.out.2.many)
      (fun h k => h.trans k) (kpT_b (by have := HB.out.2; omega) (by have := HB.out.2; omega)) (Below.refl _ _) (fun _ => rfl)
      (fun (pre : List (InIv zs n)) W => (W.heap[w.heap.size]? = some (.cells #[.pointer (some ⟨t, 0, none⟩)] 29 (0, 0)) ∧ (W.heap[w.heap.size + 1]? = some (.cells #[.int .i64 0, .int .i64 0, .int .i64 0, .string ⟨#[]⟩, .bool false, .int .i64 0, .int .i64 0, .bool false, .int .i64 0, .slice none 0 0, .int .i64 0, .int .i64 0, .string ⟨#[]⟩] 43 (0, 0)) ∧ (W.heap[w.heap.size + 1 + 1 + 1]? = some (.cells #[.int .i64 2, .int .i64 0, .int .i64 0, .string ⟨#[]⟩, .bool false, .int .i64 0, .int .i64 0, .bool false, .int .i64 (now - wh), .slice (some ⟨w.heap.size + 1 + 1, 0, none⟩) n n, .int .i64 0, .int .i64 0, .string ⟨#[]⟩] 43 (0, 0)) ∧ (W.heap[w.heap.size + 1 + 1 + 1 + 1]? = some (.cells #[.pointer (some ⟨t, 0, none⟩)] 90 (0, 0)) ∧ W.heap[w.heap.size + 1 + 1]? = some (.cells (scs (rowP zs n (pre.map (·.1)))).toArray 54 (0, 0)))))) ∧ Below w.heap.size w W)
      (fun _ _ _ => False)
      (OwnFrom.and (OwnFrom.and (heap_own _ _ _ _) (OwnFrom.and (heap_own _ _ _ _) (OwnFrom.and (heap_own _ _ _ _) (OwnFrom.and (heap_own _ _ _ _) (fun s A C row hs hg hr => heap_own _ _ _ _ () A C row hs hg hr))))) (ownFrom_below (Nat.le_refl _) (by have := HB.out.2; omega)))
      (fun _ _ _ _ _ hs _ _ => hs)
      ⟨⟨X0, X1, X3, X4, HR.out ▸ X2⟩, HB.out.1⟩
      (fun x a' W => ∃ Bx, W0.heap.size ≤ Bx ∧ W.heap[Bx]? = some (.cells #[.int .i64 x.1.2.1, .int .i64 x.1.2.2] 54 (0, 0)) ∧ a' = { tmps := #[Value.pointer (some ⟨t, 0, none⟩), .int .i64 now, .pointer (some ⟨w.heap.size, 0, none⟩), undef, .pointer (some ⟨w.heap.size + 1, 0, none⟩), .bool false, .pointer (some ⟨w.heap.size + 1 + 1 + 1, 0, none⟩), .int .i64 x.1.1, .pointer (some ⟨Bx, 0, none⟩), Value.pointer (some ⟨t, 0, none⟩), .bool false, .bool false, Value.pointer (some ⟨t, 0, none⟩), Value.pointer (some ⟨t, 0, none⟩), Value.pointer (some ⟨t, 0, none⟩), .pointer (some ⟨t, 34, none⟩), .int .i64 n, .bool false, .bool false, undef, Value.pointer (some ⟨t, 0, none⟩), Value.pointer (some ⟨t, 0, none⟩), Value.pointer (some ⟨t, 0, none⟩), .pointer (some ⟨t, 34, none⟩), .int .i64 n, .slice (some ⟨w.heap.size + 1 + 1, 0, none⟩) n n, .agg #[.int .i64 2, .int .i64 0, .int .i64 0, .string ⟨#[]⟩, .bool false, .int .i64 0, .int .i64 0, .bool false, .int .i64 0, .slice (some ⟨w.heap.size + 1 + 1, 0, none⟩) n n, .int .i64 0, .int .i64 0, .string ⟨#[]⟩], .int .i64 now, Value.pointer (some ⟨t, 0, none⟩), Value.pointer (some ⟨t, 0, none⟩), .pointer (some ⟨t, 38, none⟩), .int .i64 wh, .bool true, .int .i64 now, Value.pointer (some ⟨t, 0, none⟩), Value.pointer (some ⟨t, 0, none⟩), .pointer (some ⟨t, 38, none⟩), .int .i64 wh, .int .i64 (now - wh), .pointer (some ⟨w.heap.size + 1 + 1 + 1, 8, none⟩), Value.pointer (some ⟨t, 0, none⟩), Value.pointer (some ⟨t, 0, none⟩), Value.pointer (some ⟨t, 0, none⟩), .func (.func 48) #[] #[.pointer (some ⟨w.heap.size + 1 + 1 + 1 + 1, 0, none⟩)], .int .i64 x.1.1, .agg #[.int .i64 x.1.2.1, .int .i64 x.1.2.2], undef, undef, undef, undef, undef, undef, undef, undef, undef, undef, undef, undef, undef], defers := [] })
      (fun x a' s A C row hs hg hr => by
        obtain ⟨Bx, h1, h2, h3⟩ := hs
        exact ⟨Bx, h1, heap_own _ _ _ _ () A C row h2 hg hr, h3⟩)
      ?assign ?body ?done ?stop
    case assign =>
      rintro ly pre ⟨⟨k, f, tt⟩, hx⟩ W K hi hK
      simp only [encIv] at hK ⊢
      have H1 := Lib.hid (And.intro hi hK)
      clear hi hK
      gi_wp2
      obtain ⟨⟨q0, q1, q2, q3, q4⟩, q5⟩ := H1.out.1
      have hs := heap_lt q3
      have ht := HT.out.1.lt
      have hz := HB.out.2
      refine H1.out.2 _ _ ((KeepsOthers.alloc _ _).from _) (KpT.below ((Below.refl _ W).alloc (Nat.le_refl _) _) (by omega) (by omega)) ?_ ⟨W.heap.size, by omega, heap_alloc_new W _, rfl⟩
      exact ⟨⟨(Below.heap_alloc W _ _ (heap_lt q0)).trans q0, (Below.heap_alloc W _ _ (heap_lt q1)).trans q1, (Below.heap_alloc W _ _ (heap_lt q2)).trans q2, (Below.heap_alloc W _ _ (heap_lt q3)).trans q3, (Below.heap_alloc W _ _ (heap_lt q4)).trans q4⟩, q5.trans ((Below.refl _ W).alloc q5.size _)⟩
    case body =>
      rintro ly pre ⟨⟨k, f, tt⟩, hx⟩ a' W hl ⟨r, hr⟩ ⟨⟨q0, q1, q2, q3, q4⟩, q5⟩ ⟨Bx, hBx, hbx, rfl⟩ hlen
      simp only at hbx ⊢
      have hkn : k < n := mem_ivs hx
      have l0 := at_whole hbx 0 rfl
      have l1 := at_whole hbx 1 rfl
      have c0 := at_whole q0 0 rfl
      have c9 := at_whole q2 9 rfl
      simp only [List.getElem_toArray, List.getElem_cons_zero, List.getElem_cons_succ] at l0 l1 c0 c9
      have RL := rowP_len zs n (pre.map (·.1))
      have SL : (scs (rowP zs n (pre.map (·.1)))).length = n * 2 := by rw [scs_length, RL]
      have T1 := HT.out.1.block (q5.block t HT.out.1.lt)
      have y34 := T1.zg 34 (by decide) HT.out.2.many
      obtain ⟨j, hj⟩ : ∃ j, j = n - 1 - k := ⟨_, rfl⟩
      have d0 : ∃ v, W.cell? ⟨w.heap.size + 1 + 1, j * 2, none⟩ = some v := ⟨_, at_whole q4 (j * 2) (by rw [List.getElem?_toArray, List.getElem?_eq_getElem (by omega)])⟩
      have d1 : ∃ v, W.cell? ⟨w.heap.size + 1 + 1, j * 2 + 1, none⟩ = some v := ⟨_, at_whole q4 (j * 2 + 1) (by rw [List.getElem?_toArray, List.getElem?_eq_getElem (by omega)])⟩
      obtain ⟨v0, d0⟩ := d0
      obtain ⟨v1, d1⟩ := d1
      have z0 := frozen_of_row W (w.heap.size + 1 + 1) (j * 2) _ 54 q4
      have z1 := frozen_of_row W (w.heap.size + 1 + 1) (j * 2 + 1) _ 54 q4
      have AS := Lib.hid (show rowP zs n ((pre ++ [(⟨(k, f, tt), hx⟩ : InIv zs n)]).map (·.1)) = (rowP zs n (pre.map (·.1))).set j (f, tt) by rw [List.map_append, hj]; exact rowP_snoc zs n (pre.map (·.1)) (k, f, tt))
      have e1 : IntKind.i64.wrap ((n : Int) - 1) = (n : Int) - 1 := IntWalk.i64_in _ (by omega)
      have e2 : IntKind.i64.wrap ((n : Int) - 1 - (k : Int)) = (j : Int) := by rw [IntWalk.i64_in _ (by omega)]; omega
      have e3 : (0 : Int) ≤ (j : Int) := by omega
      have e4 : (j : Int) < (n : Int) := by omega
      have G := Lib.hid (And.intro (And.intro q0 (And.intro q1 (And.intro q2 (And.intro q3 q4)))) (And.intro q5 (And.intro RL (And.intro SL hj))))
      clear q0 q1 q2 q3 q4 q5 hbx T1 RL SL hj
      gi_wp2
      refine pure_region 46 12 (fun i => (#[.pointer (some ⟨w.heap.size + 1 + 1 + 1, 9, none⟩), .slice (some ⟨w.heap.size + 1 + 1, 0, none⟩) n n, .pointer (some ⟨t, 0, none⟩), .pointer (some ⟨t, 0, none⟩), .pointer (some ⟨t, 0, none⟩), .pointer (some ⟨t, 34, none⟩), .int .i64 n, .int .i64 ((n : Int) - 1), .int .i64 k, .int .i64 j, .agg #[.int .i64 f, .int .i64 tt], .pointer (some ⟨w.heap.size + 1 + 1, j * 2, none⟩)] : Array Value)[i]?.getD undef) (W1 := (W.drew.setCell ⟨w.heap.size + 1 + 1, j * 2, none⟩ (.int .i64 f)).setCell ⟨w.heap.size + 1 + 1, j * 2 + 1, none⟩ (.int .i64 tt)) rfl (by kernel_rfl) (by kernel_rfl) rfl (by simp) ?_ ?_ rfl ?_
      · rintro i o hi ho a ⟨hold, hdep⟩
        have o2 := hold 2 (by decide)
        have o6 := hold 6 (by decide)
        have o7 := hold 7 (by decide)
        have o8 := hold 8 (by decide)
        simp at o2 o6 o7 o8
        have hi12 : i = 0 ∨ i = 1 ∨ i = 2 ∨ i = 3 ∨ i = 4 ∨ i = 5 ∨ i = 6 ∨ i = 7 ∨ i = 8 ∨ i = 9 ∨ i = 10 ∨ i = 11 := by omega
        rcases hi12 with rfl | rfl | rfl | rfl | rfl | rfl | rfl | rfl | rfl | rfl | rfl | rfl
        all_goals (cases ho; simp [Region.binds] at hdep; refine ⟨rfl, rfl, fun _ hf => ?_, ?_⟩)
        all_goals first | (exact absurd hf (by simp [Oper.about])) | skip
        · simp [go_sem, Act.eval, o6]
        all_goals clear G AS HR X X0 X1 X2 X3 X4 X5 X6 MK hold
        all_goals (simp [go_sem, Act.eval, hdep, o2, o7, o8, c0, c9, y34, l0, l1, e1, e2, e3, e4]; done)
      · rintro o ho a ⟨hold, hdep⟩
        cases ho
        simp [Region.binds] at hdep
        clear G AS HR X X0 X1 X2 X3 X4 X5 X6 MK hold
        refine ⟨rfl, rfl, fun _ hf => absurd hf (by simp [Oper.about]), ?_⟩
        simp [go_sem, Act.eval, hdep, d0, d1, z0, z1]
      · obtain ⟨⟨q0, q1, q2, q3, q4⟩, q5, hRL, hSL, hj⟩ := G.out
        have hbz := heap_lt q4
        have hlt2 := HT.out.1.lt
        refine ⟨(((KeepsOthers.drew W).trans (KeepsOthers.setCell _ _ _)).trans (KeepsOthers.setCell _ _ _)).from _, ?_, ?_⟩
        all_goals have e0 : ∀ i, i ≠ w.heap.size + 1 + 1 → ((W.drew.setCell ⟨w.heap.size + 1 + 1, j * 2, none⟩ (.int .i64 f)).setCell ⟨w.heap.size + 1 + 1, j * 2 + 1, none⟩ (.int .i64 tt)).heap[i]? = W.heap[i]? := fun i hi => (heap_setCell_other _ ⟨w.heap.size + 1 + 1, j * 2 + 1, none⟩ i _ hi).trans (heap_setCell_other _ ⟨w.heap.size + 1 + 1, j * 2, none⟩ i _ hi)
        · exact ⟨e0 _ (by omega), e0 _ (by omega)⟩
        · refine ⟨⟨(e0 _ (by omega)).trans q0, (e0 _ (by omega)).trans q1, (e0 _ (by omega)).trans q2, (e0 _ (by omega)).trans q3, ?_⟩, (q5.drew.setCell (p := ⟨w.heap.size + 1 + 1, j * 2, none⟩) (by simp; omega) _).setCell (p := ⟨w.heap.size + 1 + 1, j * 2 + 1, none⟩) (by simp; omega) _⟩
          rw [AS.out, scs_set _ _ _ _ (by rw [hRL]; omega)]
          rw [heap_setCell_same _ _ _ _ 54 _ (heap_setCell_same W.drew _ _ _ 54 _ q4)]
          simp
    case done =>
      rename_i K0 hK0
      rintro D ys W hD hys ⟨⟨q0, q1, q2, q3, q4⟩, q5⟩ hK
      rw [hys, rowP_ivs zs n n (Nat.le_refl _)] at q4
      have H := Lib.hid (And.intro (And.intro q1 (And.intro q2 q4)) (And.intro q5 hK))
      clear q0 q1 q2 q3 q4 q5 hK hys
      refine hK0 _ _ (wpIn_wide.2 ?_)
      clear hK0
      have Hq := H.out.1.2.1
      have Hq1 := H.out.1.1
      go_wp2_with (first | (refine wpList_load_row rfl 43 _ rfl (w.heap.size + 1 + 1 + 1) rfl 43 _ (0, 0) _ Hq Tryz.underlying43 rfl size43 ?_) | (refine wpList_store_row rfl 43 _ _ rfl (w.heap.size + 1) _ rfl rfl 43 _ Hq1 size43 rfl (by simp [Value.oneCell']) ?_))
      have hz := HB.out.2
      have hD1 : D ≠ w.heap.size + 1 := by omega
      have hD2 : w.heap.size + 1 ≠ D := by omega
      have hD3 : w.heap.size + 1 + 1 ≠ D := by omega
      have hDK : (W.setRow (w.heap.size + 1) (ackE (now - wh) (.slice (some ⟨w.heap.size + 1 + 1, 0, none⟩) n n))).heap[D]? = some (.deferred (some [])) := (setRow_other _ _ _ _ hD1).trans H.out.2.2
      refine ⟨by simp, .inl ⟨_, _, rfl, run_takeDeferred hDK, ?_⟩⟩
      refine ⟨_, results_cell_tmpS rfl _ _ (w.heap.size + 1) 43 _ (0, 0) _ rfl ((World.putObj_heap_other hD2).trans (setRow_heap _ _ _ _ _ _ Hq1)) Tryz.underlying43 rfl size43, w.heap.size + 1 + 1, rfl, ⟨by rw [scs_length, rowK_len], .inr ⟨_, n, _, rfl, by omega, (World.putObj_heap_other hD3).trans ((setRow_other _ _ _ _ (by omega)).trans H.out.1.2.2), Nat.le_refl _, by unfold maxLen; omega, by simp [scs_length, rowK_len], by rw [List.take_of_length_le (by simp [scs_length, rowK_len])]⟩⟩, ?_⟩
      exact (H.out.2.1.grown (grown_setRow W _ _) H.out.2.1.size (fun k e => by cases e; omega)).trans (belowK_b (w := w) (Nat.le_refl _) _ D _ _ (by omega) hDK rfl rfl)
    case stop =>
      rintro D c pre W _ _ h _
      exact h.elim
  · rw [if_neg hd]
    gi_wp2_with (refine ⟨trivial, (callsIn_wide.2 (all62 _ _)).mono ?_⟩; rintro e w' ⟨rfl, rfl⟩)
    generalize hW0 : ((((w.alloc _).alloc _).alloc _).alloc _).alloc _ = W0
    have X := Lib.hid (hW0 ▸ boxes5 w _ _ _ _ _)
    clear hW0
    obtain ⟨X0, X1, X2, X3, X4, X5, X6⟩ := X.out
    have HB := Lib.hid (And.intro X5 X6)
    clear X y34 y38
    refine wpIn_rangeFunc_ownH rfl (by decide) (gf := 48) (lb := #[.pointer (some ⟨w.heap.size + 1 + 1 + 1 + 1, 0, none⟩)]) rfl trivial (enters_of Tryz.func48 (by kernel_rfl) rfl)
      (iv_stopsS 7 (by decide) (w.heap.size + 1 + 1 + 1 + 1) t n zs (by omega) W0 (by have := HB.out.2; omega) (at_whole X4 0 rfl) (HT.out.1.block (HB.out.1.block t HT.out.1.lt)) HT.out.2.many)
      (fun h k => h.trans k) (kpT_b (by have := HB.out.2; omega) (by have := HB.out.2; omega)) (Below.refl _ _) (fun _ => rfl)
      (fun (pre : List (InIv zs n)) W => (W.heap[w.heap.size]? = some (.cells #[.pointer (some ⟨t, 0, none⟩)] 29 (0, 0)) ∧ (W.heap[w.heap.size + 1]? = some (.cells #[.int .i64 0, .int .i64 0, .int .i64 0, .string ⟨#[]⟩, .bool false, .int .i64 0, .int .i64 0, .bool false, .int .i64 0, .slice none 0 0, .int .i64 0, .int .i64 0, .string ⟨#[]⟩] 43 (0, 0)) ∧ (W.heap[w.heap.size + 1 + 1 + 1]? = some (.cells #[.int .i64 2, .int .i64 0, .int .i64 0, .string ⟨#[]⟩, .bool false, .int .i64 0, .int .i64 0, .bool false, .int .i64 0, .slice (some ⟨w.heap.size + 1 + 1, 0, none⟩) n n, .int .i64 0, .int .i64 0, .string ⟨#[]⟩] 43 (0, 0)) ∧ (W.heap[w.heap.size + 1 + 1 + 1 + 1]? = some (.cells #[.pointer (some ⟨t, 0, none⟩)] 90 (0, 0)) ∧ W.heap[w.heap.size + 1 + 1]? = some (.cells (scs (rowP zs n (pre.map (·.1)))).toArray 54 (0, 0)))))) ∧ Below w.heap.size w W)
      (fun _ _ _ => False)
      (OwnFrom.and (OwnFrom.and (heap_own _ _ _ _) (OwnFrom.and (heap_own _ _ _ _) (OwnFrom.and (heap_own _ _ _ _) (OwnFrom.and (heap_own _ _ _ _) (fun s A C row hs hg hr => heap_own _ _ _ _ () A C row hs hg hr))))) (ownFrom_below (Nat.le_refl _) (by have := HB.out.2; omega)))
      (fun _ _ _ _ _ hs _ _ => hs)
      ⟨⟨X0, X1, X3, X4, HR.out ▸ X2⟩, HB.out.1⟩
      (fun x a' W => ∃ Bx, W0.heap.size ≤ Bx ∧ W.heap[Bx]? = some (.cells #[.int .i64 x.1.2.1, .int .i64 x.1.2.2] 54 (0, 0)) ∧ a' = { tmps := #[Value.pointer (some ⟨t, 0, none⟩), .int .i64 now, .pointer (some ⟨w.heap.size, 0, none⟩), undef, .pointer (some ⟨w.heap.size + 1, 0, none⟩), .bool false, .pointer (some ⟨w.heap.size + 1 + 1 + 1, 0, none⟩), .int .i64 x.1.1, .pointer (some ⟨Bx, 0, none⟩), Value.pointer (some ⟨t, 0, none⟩), .bool false, .bool false, Value.pointer (some ⟨t, 0, none⟩), Value.pointer (some ⟨t, 0, none⟩), Value.pointer (some ⟨t, 0, none⟩), .pointer (some ⟨t, 34, none⟩), .int .i64 n, .bool false, .bool false, undef, Value.pointer (some ⟨t, 0, none⟩), Value.pointer (some ⟨t, 0, none⟩), Value.pointer (some ⟨t, 0, none⟩), .pointer (some ⟨t, 34, none⟩), .int .i64 n, .slice (some ⟨w.heap.size + 1 + 1, 0, none⟩) n n, .agg #[.int .i64 2, .int .i64 0, .int .i64 0, .string ⟨#[]⟩, .bool false, .int .i64 0, .int .i64 0, .bool false, .int .i64 0, .slice (some ⟨w.heap.size + 1 + 1, 0, none⟩) n n, .int .i64 0, .int .i64 0, .string ⟨#[]⟩], .int .i64 now, Value.pointer (some ⟨t, 0, none⟩), Value.pointer (some ⟨t, 0, none⟩), .pointer (some ⟨t, 38, none⟩), .int .i64 wh, .bool false, undef, undef, undef, undef, undef, undef, undef, Value.pointer (some ⟨t, 0, none⟩), Value.pointer (some ⟨t, 0, none⟩), Value.pointer (some ⟨t, 0, none⟩), .func (.func 48) #[] #[.pointer (some ⟨w.heap.size + 1 + 1 + 1 + 1, 0, none⟩)], .int .i64 x.1.1, .agg #[.int .i64 x.1.2.1, .int .i64 x.1.2.2], undef, undef, undef, undef, undef, undef, undef, undef, undef, undef, undef, undef, undef], defers := [] })
      (fun x a' s A C row hs hg hr => by
        obtain ⟨Bx, h1, h2, h3⟩ := hs
        exact ⟨Bx, h1, heap_own _ _ _ _ () A C row h2 hg hr, h3⟩)
      ?assign ?body ?done ?stop
    case assign =>
      rintro ly pre ⟨⟨k, f, tt⟩, hx⟩ W K hi hK
      simp only [encIv] at hK ⊢
      have H1 := Lib.hid (And.intro hi hK)
      clear hi hK
      gi_wp2
      obtain ⟨⟨q0, q1, q2, q3, q4⟩, q5⟩ := H1.out.1
      have hs := heap_lt q3
      have ht := HT.out.1.lt
      have hz := HB.out.2
      refine H1.out.2 _ _ ((KeepsOthers.alloc _ _).from _) (KpT.below ((Below.refl _ W).alloc (Nat.le_refl _) _) (by omega) (by omega)) ?_ ⟨W.heap.size, by omega, heap_alloc_new W _, rfl⟩
      exact ⟨⟨(Below.heap_alloc W _ _ (heap_lt q0)).trans q0, (Below.heap_alloc W _ _ (heap_lt q1)).trans q1, (Below.heap_alloc W _ _ (heap_lt q2)).trans q2, (Below.heap_alloc W _ _ (heap_lt q3)).trans q3, (Below.heap_alloc W _ _ (heap_lt q4)).trans q4⟩, q5.trans ((Below.refl _ W).alloc q5.size _)⟩
    case body =>
      rintro ly pre ⟨⟨k, f, tt⟩, hx⟩ a' W hl ⟨r, hr⟩ ⟨⟨q0, q1, q2, q3, q4⟩, q5⟩ ⟨Bx, hBx, hbx, rfl⟩ hlen
      simp only at hbx ⊢
      have hkn : k < n := mem_ivs hx
      have l0 := at_whole hbx 0 rfl
      have l1 := at_whole hbx 1 rfl
      have c0 := at_whole q0 0 rfl
      have c9 := at_whole q2 9 rfl
      simp only [List.getElem_toArray, List.getElem_cons_zero, List.getElem_cons_succ] at l0 l1 c0 c9
      have RL := rowP_len zs n (pre.map (·.1))
      have SL : (scs (rowP zs n (pre.map (·.1)))).length = n * 2 := by rw [scs_length, RL]
      have T1 := HT.out.1.block (q5.block t HT.out.1.lt)
      have y34 := T1.zg 34 (by decide) HT.out.2.many
      obtain ⟨j, hj⟩ : ∃ j, j = n - 1 - k := ⟨_, rfl⟩
      have d0 : ∃ v, W.cell? ⟨w.heap.size + 1 + 1, j * 2, none⟩ = some v := ⟨_, at_whole q4 (j * 2) (by rw [List.getElem?_toArray, List.getElem?_eq_getElem (by omega)])⟩
      have d1 : ∃ v, W.cell? ⟨w.heap.size + 1 + 1, j * 2 + 1, none⟩ = some v := ⟨_, at_whole q4 (j * 2 + 1) (by rw [List.getElem?_toArray, List.getElem?_eq_getElem (by omega)])⟩
      obtain ⟨v0, d0⟩ := d0
      obtain ⟨v1, d1⟩ := d1
      have z0 := frozen_of_row W (w.heap.size + 1 + 1) (j * 2) _ 54 q4
      have z1 := frozen_of_row W (w.heap.size + 1 + 1) (j * 2 + 1) _ 54 q4
      have AS := Lib.hid (show rowP zs n ((pre ++ [(⟨(k, f, tt), hx⟩ : InIv zs n)]).map (·.1)) = (rowP zs n (pre.map (·.1))).set j (f, tt) by rw [List.map_append, hj]; exact rowP_snoc zs n (pre.map (·.1)) (k, f, tt))
      have e1 : IntKind.i64.wrap ((n : Int) - 1) = (n : Int) - 1 := IntWalk.i64_in _ (by omega)
      have e2 : IntKind.i64.wrap ((n : Int) - 1 - (k : Int)) = (j : Int) := by rw [IntWalk.i64_in _ (by omega)]; omega
      have e3 : (0 : Int) ≤ (j : Int) := by omega
      have e4 : (j : Int) < (n : Int) := by omega
      have G := Lib.hid (And.intro (And.intro q0 (And.intro q1 (And.intro q2 (And.intro q3 q4)))) (And.intro q5 (And.intro RL (And.intro SL hj))))
      clear q0 q1 q2 q3 q4 q5 hbx T1 RL SL hj
      gi_wp2
      refine pure_region 46 12 (fun i => (#[.pointer (some ⟨w.heap.size + 1 + 1 + 1, 9, none⟩), .slice (some ⟨w.heap.size + 1 + 1, 0, none⟩) n n, .pointer (some ⟨t, 0, none⟩), .pointer (some ⟨t, 0, none⟩), .pointer (some ⟨t, 0, none⟩), .pointer (some ⟨t, 34, none⟩), .int .i64 n, .int .i64 ((n : Int) - 1), .int .i64 k, .int .i64 j, .agg #[.int .i64 f, .int .i64 tt], .pointer (some ⟨w.heap.size + 1 + 1, j * 2, none⟩)] : Array Value)[i]?.getD undef) (W1 := (W.drew.setCell ⟨w.heap.size + 1 + 1, j * 2, none⟩ (.int .i64 f)).setCell ⟨w.heap.size + 1 + 1, j * 2 + 1, none⟩ (.int .i64 tt)) rfl (by kernel_rfl) (by kernel_rfl) rfl (by simp) ?_ ?_ rfl ?_
      · rintro i o hi ho a ⟨hold, hdep⟩
        have o2 := hold 2 (by decide)
        have o6 := hold 6 (by decide)
        have o7 := hold 7 (by decide)
        have o8 := hold 8 (by decide)
        simp at o2 o6 o7 o8
        have hi12 : i = 0 ∨ i = 1 ∨ i = 2 ∨ i = 3 ∨ i = 4 ∨ i = 5 ∨ i = 6 ∨ i = 7 ∨ i = 8 ∨ i = 9 ∨ i = 10 ∨ i = 11 := by omega
        rcases hi12 with rfl | rfl | rfl | rfl | rfl | rfl | rfl | rfl | rfl | rfl | rfl | rfl
        all_goals (cases ho; simp [Region.binds] at hdep; refine ⟨rfl, rfl, fun _ hf => ?_, ?_⟩)
        all_goals first | (exact absurd hf (by simp [Oper.about])) | skip
        · simp [go_sem, Act.eval, o6]
        all_goals clear G AS HR X X0 X1 X2 X3 X4 X5 X6 MK hold
        all_goals (simp [go_sem, Act.eval, hdep, o2, o7, o8, c0, c9, y34, l0, l1, e1, e2, e3, e4]; done)
      · rintro o ho a ⟨hold, hdep⟩
        cases ho
        simp [Region.binds] at hdep
        clear G AS HR X X0 X1 X2 X3 X4 X5 X6 MK hold
        refine ⟨rfl, rfl, fun _ hf => absurd hf (by simp [Oper.about]), ?_⟩
        simp [go_sem, Act.eval, hdep, d0, d1, z0, z1]
      · obtain ⟨⟨q0, q1, q2, q3, q4⟩, q5, hRL, hSL, hj⟩ := G.out
        have hbz := heap_lt q4
        have hlt2 := HT.out.1.lt
        refine ⟨(((KeepsOthers.drew W).trans (KeepsOthers.setCell _ _ _)).trans (KeepsOthers.setCell _ _ _)).from _, ?_, ?_⟩
        all_goals have e0 : ∀ i, i ≠ w.heap.size + 1 + 1 → ((W.drew.setCell ⟨w.heap.size + 1 + 1, j * 2, none⟩ (.int .i64 f)).setCell ⟨w.heap.size + 1 + 1, j * 2 + 1, none⟩ (.int .i64 tt)).heap[i]? = W.heap[i]? := fun i hi => (heap_setCell_other _ ⟨w.heap.size + 1 + 1, j * 2 + 1, none⟩ i _ hi).trans (heap_setCell_other _ ⟨w.heap.size + 1 + 1, j * 2, none⟩ i _ hi)
        · exact ⟨e0 _ (by omega), e0 _ (by omega)⟩
        · refine ⟨⟨(e0 _ (by omega)).trans q0, (e0 _ (by omega)).trans q1, (e0 _ (by omega)).trans q2, (e0 _ (by omega)).trans q3, ?_⟩, (q5.drew.setCell (p := ⟨w.heap.size + 1 + 1, j * 2, none⟩) (by simp; omega) _).setCell (p := ⟨w.heap.size + 1 + 1, j * 2 + 1, none⟩) (by simp; omega) _⟩
          rw [AS.out, scs_set _ _ _ _ (by rw [hRL]; omega)]
          rw [heap_setCell_same _ _ _ _ 54 _ (heap_setCell_same W.drew _ _ _ 54 _ q4)]
          simp
    case done =>
      rename_i K0 hK0
      rintro D ys W hD hys ⟨⟨q0, q1, q2, q3, q4⟩, q5⟩ hK
      rw [hys, rowP_ivs zs n n (Nat.le_refl _)] at q4
      have H := Lib.hid (And.intro (And.intro q1 (And.intro q2 q4)) (And.intro q5 hK))
      clear q0 q1 q2 q3 q4 q5 hK hys
      refine hK0 _ _ (wpIn_wide.2 ?_)
      clear hK0
      have Hq := H.out.1.2.1
      have Hq1 := H.out.1.1
      go_wp2_with (first | (refine wpList_load_row rfl 43 _ rfl (w.heap.size + 1 + 1 + 1) rfl 43 _ (0, 0) _ Hq Tryz.underlying43 rfl size43 ?_) | (refine wpList_store_row rfl 43 _ _ rfl (w.heap.size + 1) _ rfl rfl 43 _ Hq1 size43 rfl (by simp [Value.oneCell']) ?_))
      have hz := HB.out.2
      have hD1 : D ≠ w.heap.size + 1 := by omega
      have hD2 : w.heap.size + 1 ≠ D := by omega
      have hD3 : w.heap.size + 1 + 1 ≠ D := by omega
      have hDK : (W.setRow (w.heap.size + 1) (ackE 0 (.slice (some ⟨w.heap.size + 1 + 1, 0, none⟩) n n))).heap[D]? = some (.deferred (some [])) := (setRow_other _ _ _ _ hD1).trans H.out.2.2
      refine ⟨by simp, .inl ⟨_, _, rfl, run_takeDeferred hDK, ?_⟩⟩
      refine ⟨_, results_cell_tmpS rfl _ _ (w.heap.size + 1) 43 _ (0, 0) _ rfl ((World.putObj_heap_other hD2).trans (setRow_heap _ _ _ _ _ _ Hq1)) Tryz.underlying43 rfl size43, w.heap.size + 1 + 1, rfl, ⟨by rw [scs_length, rowK_len], .inr ⟨_, n, _, rfl, by omega, (World.putObj_heap_other hD3).trans ((setRow_other _ _ _ _ (by omega)).trans H.out.1.2.2), Nat.le_refl _, by unfold maxLen; omega, by simp [scs_length, rowK_len], by rw [List.take_of_length_le (by simp [scs_length, rowK_len])]⟩⟩, ?_⟩
      exact (H.out.2.1.grown (grown_setRow W _ _) H.out.2.1.size (fun k e => by cases e; omega)).trans (belowK_b (w := w) (Nat.le_refl _) _ D _ _ (by omega) hDK rfl rfl)
    case stop =>
      rintro D c pre W _ _ h _
      exact h.elim
end Go.Proofs.YtpfkeohaaeiaaaaGreat
/- Law 13: two rows of counters and a Tracker beside a Recovery of the call's own. -/
namespace Go.Proofs.YtpfkeohaaeiaaaaGreat
open Go.RowKit Go.WideShapes Go.ChangeShapes
variable {w0 w w' : World} {b M : Nat} {R R' : Rc} {rows rows' : List Rw} {os : List (Nat × Obj)}
theorem row_block {W : World} {B n z g : Nat} {e : TypeId} {v : Value} {xs : List Value} (h : W.ownsRow B e z v n xs) (hg : v.ownBlock = some g) : B ≤ g ∧ g < W.heap.size ∧ ∃ cur cap, v = .slice (some ⟨g, 0, none⟩) n cap ∧ W.heap[g]? = some (.cells cur e (0, 0)) := by
  rcases h.2 with ⟨rfl, _⟩ | ⟨g1, cap, cur, rfl, hb, hgg, _⟩
  · simp [Value.ownBlock] at hg
  · simp [Value.ownBlock] at hg
    subst hg
    exact ⟨hb, heap_lt hgg, cur, cap, rfl, hgg⟩
/-- only block g of counters has turned -/
theorem Lw.other2 (h : Lw w0 w b M R rows os) {g : Nat} {cur : Array Value} (hg : w.heap[g]? = some (.cells cur 3 (0, 0))) (hgb : w0.heap.size ≤ g) (ht : Tu g g w w') (hs : ∀ x ∈ rows', x ∈ rows ∧ (x.e = 3 → x.v.ownBlock ≠ some g)) (ho : No3 os) :
    Lw w0 w' b M R rows' os := by
  have hbg : b ≠ g := fun e => by subst e; have := h.at_.1; rw [hg] at this; cases this
  have hMg : M ≠ g := fun e => by subst e; have := h.at_.noC hg; cases this
  refine ⟨Tu.to_below h.bel ht hgb hgb h.bel.size, ⟨(ht.block b (heap_lt h.at_.1) hbg hbg).trans h.at_.1, h.at_.2.of_block (ht.block M h.at_.2.lt hMg hMg)⟩, h.ok, h.nil, h.ownb, h.ownM, fun x hx => ?_, fun x hx => ?_⟩
  · obtain ⟨h1, h2⟩ := hs x hx
    obtain ⟨hr, h3⟩ := h.rows x h1
    refine ⟨⟨hr.1, ?_⟩, h3⟩
    rcases hr.2 with h4 | ⟨g1, cap, cur1, e1, hb, hgg, rest⟩
    · exact .inl h4
    · have hne : g1 ≠ g := fun e => by
        subst e
        rw [hgg] at hg
        simp only [Option.some.injEq, Obj.cells.injEq] at hg
        exact h2 hg.2.1 (by rw [e1]; rfl)
      exact .inr ⟨g1, cap, cur1, e1, hb, (ht.block g1 (heap_lt hgg) hne hne).trans hgg, rest⟩
  · obtain ⟨h1, h2, h3⟩ := h.os x hx
    obtain ⟨cs, T, h4, h5⟩ := ho x hx
    have hne : x.1 ≠ g := fun e => by
      rw [h4, e, hg] at h1
      cases h1
      exact h5 rfl
    exact ⟨(ht.block x.1 (heap_lt h1) hne hne).trans h1, h2, h3⟩
/-- counters tv (T) and uv (U) in rows of their own -/
structure Tq (w0 w : World) (b M : Nat) (R : Rc) (tv : Value) (T : List Int) (uv : Value) (U : List Int) (rows : List Rw) (os : List (Nat × Obj)) : Prop where
  lw : Lw w0 w b M R (inR tv T :: inR uv U :: rows) os
  ap : ∀ g, tv.ownBlock = some g → uv.ownBlock ≠ some g
variable {tv uv : Value} {T U : List Int}
theorem Tq.t (h : Tq w0 w b M R tv T uv U rows os) : w.ownsRow w0.heap.size 3 1 tv T.length (ints T) := (h.lw.rows _ List.mem_cons_self).1
theorem Tq.u (h : Tq w0 w b M R tv T uv U rows os) : w.ownsRow w0.heap.size 3 1 uv U.length (ints U) := (h.lw.rows _ (List.mem_cons_of_mem _ List.mem_cons_self)).1
theorem Tq.keep {os' : List (Nat × Obj)} (h : Tq w0 w b M R tv T uv U rows os) (hl : Lw w0 w' b M R' (inR tv T :: inR uv U :: rows') os') : Tq w0 w' b M R' tv T uv U rows' os' := ⟨hl, h.ap⟩
theorem Tq.below (h : Tq w0 w b M R tv T uv U rows os) (hb : Below w.heap.size w w') : Tq w0 w' b M R tv T uv U rows os := ⟨h.lw.below hb, h.ap⟩
theorem Tq.sub {os' : List (Nat × Obj)} (h : Tq w0 w b M R tv T uv U rows os) (hr : ∀ x ∈ rows', x ∈ rows) (ho : ∀ x ∈ os', x ∈ os) : Tq w0 w b M R tv T uv U rows' os' :=
  ⟨h.lw.sub (fun x hx => by
    rcases List.mem_cons.1 hx with e | hx
    · exact e ▸ List.mem_cons_self
    · rcases List.mem_cons.1 hx with e | hx
      · exact e ▸ List.mem_cons_of_mem _ List.mem_cons_self
      · exact List.mem_cons_of_mem _ (List.mem_cons_of_mem _ (hr x hx))) ho, h.ap⟩
def NoR3 (rows : List Rw) : Prop := ∀ x ∈ rows, x.e ≠ 3
theorem Tq.swap (h : Tq w0 w b M R tv T uv U rows os) : Tq w0 w b M R uv U tv T rows os :=
  ⟨h.lw.sub (fun x hx => by
    rcases List.mem_cons.1 hx with e | hx
    · exact e ▸ List.mem_cons_of_mem _ List.mem_cons_self
    · rcases List.mem_cons.1 hx with e | hx
      · exact e ▸ List.mem_cons_self
      · exact List.mem_cons_of_mem _ (List.mem_cons_of_mem _ hx)) (fun _ hx => hx), fun g h1 h2 => h.ap g h2 h1⟩
/-- the row of tv has turned -/
theorem Tq.turnT (h : Tq w0 w b M R tv T uv U rows os) {g : Nat} (hg : tv.ownBlock = some g) (ht : Tu g g w w') {tv' : Value} {T' : List Int} (hn : w'.ownsRow w0.heap.size 3 1 tv' T'.length (ints T')) (hl : tv'.ownBlock = some g ∨ tv'.ownBlock = some w.heap.size) (hr : NoR3 rows) (ho : No3 os) :
    Tq w0 w' b M R tv' T' uv U rows os := by
  obtain ⟨hb, hlt, cur, cap, e, hgg⟩ := row_block h.t hg
  refine ⟨(h.lw.other2 (rows' := inR uv U :: rows) hgg hb ht (fun x hx => ⟨List.mem_cons_of_mem _ hx, fun e3 => ?_⟩) ho).addRow (inR tv' T') hn (show (3 : Nat) ≠ 59 by decide), fun g' h1 h2 => ?_⟩
  · rcases List.mem_cons.1 hx with e | hx
    · subst e; exact h.ap g hg
    · exact absurd e3 (hr x hx)
  · rcases hl with hl | hl
    · rw [hl] at h1; cases h1; exact h.ap g hg h2
    · rw [hl] at h1; cases h1
      have := (row_block h.u h2).2.1
      exact absurd this (Nat.lt_irrefl _)
/-- a row for counters that were nil -/
theorem Tq.freshT (h : Tq w0 w b M R tv T uv U rows os) (hb : Below w.heap.size w w') {tv' : Value} {T' : List Int} (hn : w'.ownsRow w0.heap.size 3 1 tv' T'.length (ints T')) (hl : tv'.ownBlock = some w.heap.size) :
    Tq w0 w' b M R tv' T' uv U rows os := by
  refine ⟨((h.lw.below hb).sub (rows' := inR uv U :: rows) (fun x hx => List.mem_cons_of_mem _ hx) (fun _ hx => hx)).addRow (inR tv' T') hn (show (3 : Nat) ≠ 59 by decide), fun g' h1 h2 => ?_⟩
  rw [hl] at h1; cases h1
  have := (row_block h.u h2).2.1
  exact absurd this (Nat.lt_irrefl _)
theorem wpList_append_tq {ops : Array Oper} {rest : List Oper} {o : Oper} {a : Act} {Q : Exit → Act → World → Prop} (hgd : o.guard = none) (s x : Operand) (hop : o.op = .call { callee := .builtin .append, args := #[s, x], argTypes := #[22, 22] })
    (z : Int) (h : Tq w0 w b M R tv T uv U rows os) (hs : a.eval s = tv) (g0 : Nat) (hx : a.eval x = .slice (some ⟨g0, 0, none⟩) 1 1) (hg0 : w.heap[g0]? = some (.cells #[.int .i64 z] 3 (0, 0)))
    (m : Nat) (hm : T.length = m) (hT : m ≤ 10000) (hr : NoR3 rows) (ho : No3 os)
    (hk : ∀ a' cap w', Tq w0 w' b M R (.slice a' (m + 1) cap) (T ++ [z]) uv U rows os → wpList Tryz.prog ops Q rest (a.put o.dst (.slice a' (m + 1) cap)) w') : wpList Tryz.prog ops Q (o :: rest) a w := by
  subst hm
  obtain ⟨i0, hi, hz0, hz1, hz2⟩ := info_parts info3
  refine wpList_append_lies w hgd s x 22 hop w0.heap.size 3 i0 (.int .i64 0) 1 8 Tryz.underlying22 hi hz0 hz1 hz2 rfl (by decide) tv T.length (ints T) hs h.t ⟨g0, 0, none⟩ 1 1 [.int .i64 z] hx rfl (World.news_of_block hg0) (by simp [Value.oneCell']) (by decide) (by unfold maxLen; omega) (by omega) h.lw.bel.size _ rfl ?_
  intro g cap w' hown hgrow hat hlt
  have e1 : ints T ++ [Value.int .i64 z] = ints (T ++ [z]) := by simp [ints]
  rw [e1] at hown
  have hnew : w'.ownsRow w0.heap.size 3 1 (.slice (some ⟨g, 0, none⟩) (T.length + 1) cap) (T ++ [z]).length (ints (T ++ [z])) := by rw [List.length_append]; exact hown
  refine hk _ _ _ ?_
  cases hv : tv.ownBlock with
  | none =>
    rw [hv] at hgrow hat
    have hb : Below w.heap.size w w' := (Below.refl _ w).grown hgrow (Nat.le_refl _) (fun k e => by cases e)
    exact h.freshT hb hnew (by rcases hat with hat | hat; · cases hat
                               · rw [← hat]; rfl)
  | some g1 =>
    rw [hv] at hgrow hat
    exact h.turnT hv (Tu.map hgrow) hnew (by rcases hat with hat | hat
                                             · left; cases hat; rfl
                                             · right; rw [← hat]; rfl) hr ho
/-- a counter is set -/
theorem Tq.setT (h : Tq w0 w b M R tv T uv U rows os) {g cap : Nat} (hv : tv = .slice (some ⟨g, 0, none⟩) T.length cap) (j : Nat) (x : Int) (hr : NoR3 rows) (ho : No3 os) : Tq w0 (w.setCell ⟨g, j, none⟩ (.int .i64 x)) b M R tv (T.set j x) uv U rows os := by
  have hg : tv.ownBlock = some g := by rw [hv]; rfl
  have ht := h.t
  rw [hv] at ht
  have hs := ht.stored j (.int .i64 x)
  refine h.turnT hg (Tu.set _ _ _) ?_ (.inl hg) hr ho
  rw [List.length_set, ← ints_set, hv]
  exact hs.1
/-- a Tracker as a block -/
def tkO (zs : List Int) : Obj := .cells (zs.map (Value.int .i64)).toArray 70 (0, 0)
theorem Lw.tk {t : Nat} {zs : List Int} (h : Lw w0 w b M R rows os) (hx : (t, tkO zs) ∈ os) (hl : zs.length = 41) : TkAt w t zs := ⟨hl, h.at hx⟩
/-- only the Tracker has turned -/
theorem Lw.turnK {t : Nat} {zs zs' : List Int} (h : Lw w0 w b M R rows ((t, tkO zs) :: os)) (hT : TkAt w' t zs') (ht : Tu t t w w') (hr : ∀ x ∈ rows, x.e ≠ 70) (ho : ∀ x ∈ os, x.1 ≠ t) (hb : w0.heap.size ≤ t) : Lw w0 w' b M R rows ((t, tkO zs') :: os) := by
  have hg : w.heap[t]? = some (tkO zs) := h.at List.mem_cons_self
  have hbg : b ≠ t := fun e => by subst e; have := h.at_.1; rw [hg] at this; simp [tkO] at this
  have hMg : M ≠ t := fun e => by subst e; have := h.at_.noC hg; cases this
  refine ⟨Tu.to_below h.bel ht hb hb h.bel.size, ⟨(ht.block b (heap_lt h.at_.1) hbg hbg).trans h.at_.1, h.at_.2.of_block (ht.block M h.at_.2.lt hMg hMg)⟩, h.ok, h.nil, h.ownb, h.ownM, fun x hx => ?_, fun x hx => ?_⟩
  · obtain ⟨hr1, h3⟩ := h.rows x hx
    refine ⟨⟨hr1.1, ?_⟩, h3⟩
    rcases hr1.2 with h4 | ⟨g1, cap, cur1, e1, hb, hgg, rest⟩
    · exact .inl h4
    · have hne : g1 ≠ t := fun e => by
        subst e
        rw [hgg] at hg
        simp only [tkO, Option.some.injEq, Obj.cells.injEq] at hg
        exact hr x hx hg.2.1
      exact .inr ⟨g1, cap, cur1, e1, hb, (ht.block g1 (heap_lt hgg) hne hne).trans hgg, rest⟩
  · rcases List.mem_cons.1 hx with e | hx
    · subst e
      exact ⟨hT.2, rfl, fun e => hbg e.symm⟩
    · obtain ⟨h1, h2, h3⟩ := h.os x (List.mem_cons_of_mem _ hx)
      exact ⟨(ht.block x.1 (heap_lt h1) (ho x hx) (ho x hx)).trans h1, h2, h3⟩
end Go.Proofs.YtpfkeohaaeiaaaaGreat
/- Law 13: plain laws for LossTracker: what was received, what was acknowledged, what is left. -/
namespace Go.Proofs.YtpfkeohaaeiaaaaGreat
variable {zs zs' : List Int} {n n' k : Nat} {top lg wh few : Int}
theorem TkOk.up (h : TkOk zs n top lg wh few) {top' : Int} (ht : top ≤ top') : TkOk zs n top' lg wh few :=
  ⟨h.len, h.many, h.le, fun k hk => by have := h.rg k hk; omega, h.gap, h.size, by have := h.top0; omega, h.dl0, h.dl1, h.fl, h.lg, h.wh, h.c0, h.c1, h.d0, h.d1⟩
theorem rowK_at (zs : List Int) (n k : Nat) (hk : k < n) : fF (rowK zs n n) k = zg zs ((n - 1 - k) * 2) ∧ fT (rowK zs n n) k = zg zs ((n - 1 - k) * 2 + 1) := by
  have : (rowK zs n n).getD k (0, 0) = (zg zs ((n - 1 - k) * 2), zg zs ((n - 1 - k) * 2 + 1)) := by
    rw [List.getD_eq_getElem?_getD, List.getElem?_eq_getElem (by rw [rowK_len]; exact hk)]
    simp [rowK]
  unfold fF fT
  rw [this]
  exact ⟨rfl, rfl⟩
theorem row_rg (h : TkOk zs n top lg wh few) (hn : 1 ≤ n) (ht : top ≤ 1000) : RgOk n (fF (rowK zs n n)) (fT (rowK zs n n)) := by
  refine ⟨hn, h.le, fun k hk => ?_⟩
  obtain ⟨e1, e2⟩ := rowK_at zs n k hk
  have hr := h.rg (n - 1 - k) (by omega)
  rw [e1, e2]
  refine ⟨hr.1, hr.2.1, by omega, ?_⟩
  cases k with
  | zero => show _ < (281474976710658 : Int); omega
  | succ k =>
    show _ < fF (rowK zs n n) k
    rw [(rowK_at zs n k (by omega)).1]
    exact h.gap _ _ (by omega) (by omega)
theorem row_top (h : TkOk zs n top lg wh few) (hn : 1 ≤ n) : fT (rowK zs n n) 0 ≤ top := by
  rw [(rowK_at zs n 0 (by omega)).2]
  exact (h.rg _ (by omega)).2.2
theorem row_cov (zs : List Int) (n : Nat) (x : Int) : inF n (fF (rowK zs n n)) (fT (rowK zs n n)) x = covB zs n x := by
  rw [Bool.eq_iff_iff, covB_iff]
  unfold inF
  rw [List.any_eq_true]
  constructor
  · rintro ⟨k, hk, h⟩
    have hk := List.mem_range.1 hk
    obtain ⟨e1, e2⟩ := rowK_at zs n k hk
    rw [e1, e2] at h
    simp only [spF, Bool.and_eq_true, decide_eq_true_eq] at h
    exact ⟨n - 1 - k, by omega, h.1, h.2⟩
  · rintro ⟨k, hk, h1, h2⟩
    refine ⟨n - 1 - k, List.mem_range.2 (by omega), ?_⟩
    obtain ⟨e1, e2⟩ := rowK_at zs n (n - 1 - k) (by omega)
    rw [e1, e2, show n - 1 - (n - 1 - k) = k by omega]
    simp only [spF, Bool.and_eq_true, decide_eq_true_eq]
    exact ⟨h1, h2⟩
/-- k packets were sent: T counts those acknowledged, U those received; the Tracker holds the received ones -/
structure TrOk (R : Rc) (T U zs : List Int) (n k : Nat) : Prop where
  tk : ∃ lg wh few, TkOk zs n k lg wh few ∧ -1 ≤ lg ∧ lg < k ∧ 0 ≤ wh ∧ wh ≤ k ∧ few ≤ k
  tl : T.length = k
  ul : U.length = k
  nx : R.nx = k
  t : ∀ i : Nat, i < k → 0 ≤ T[i]?.getD 0 ∧ T[i]?.getD 0 ≤ U[i]?.getD 0 ∧ (U[i]?.getD 0 = 0 ∨ U[i]?.getD 0 = 1) ∧ T[i]?.getD 0 + cntP R.l i ≤ 1
  c : ∀ i : Nat, i < k → (U[i]?.getD 0 = 1 ↔ covB zs n i = true)
variable {R : Rc} {T U : List Int}
theorem TrOk.start : TrOk ⟨[], 0, -1⟩ [] [] (zs0 2) 0 0 :=
  ⟨⟨-1, 0, 0, zs0_ok 2 (by decide) (by decide), by decide, by decide, by decide, by decide, by decide⟩, rfl, rfl, rfl, fun i hi => by omega, fun i hi => by omega⟩
theorem get_snoc (T : List Int) (x : Int) (i : Nat) (hi : i < T.length + 1) : (T ++ [x])[i]?.getD 0 = if i = T.length then x else T[i]?.getD 0 := by
  by_cases h : i = T.length
  · subst h; simp
  · rw [if_neg h, List.getElem?_append_left (by omega)]
theorem cnt_new (h : R.nx = k) (hb : ∀ p ∈ R.l, p.pn < R.nx) : cntP R.l k = 0 := by
  unfold cntP
  rw [List.filter_eq_nil_iff.2 (fun q hq => by have := hb q hq; simp; omega)]
  rfl
/-- a packet is sent and does not arrive -/
theorem TrOk.lost (h : TrOk R T U zs n k) (hb : ∀ p ∈ R.l, p.pn < R.nx) (p : Pk) (hp : p.pn = k) : TrOk (R.add p) (T ++ [0]) (U ++ [0]) zs n (k + 1) := by
  obtain ⟨lg, wh, few, h1, h2, h3, h4, h5, h6⟩ := h.tk
  refine ⟨⟨lg, wh, few, h1.up (by push_cast; omega), h2, by push_cast; omega, h4, by push_cast; omega, by push_cast; omega⟩, by simp [h.tl], by simp [h.ul], by show R.nx + 1 = _; rw [h.nx]; push_cast; rfl, fun i hi => ?_, fun i hi => ?_⟩
  · rw [get_snoc _ _ _ (by rw [h.tl]; omega), get_snoc _ _ _ (by rw [h.ul]; omega), h.tl, h.ul]
    show _ ∧ _ ∧ _ ∧ _ + cntP (R.l ++ [p]) i ≤ 1
    rw [cntP_snoc]
    by_cases e : i = k
    · subst e
      rw [if_pos rfl, if_pos rfl, if_pos hp, cnt_new h.nx hb]
      omega
    · rw [if_neg e, if_neg e, if_neg (by omega)]
      have := h.t i (by omega)
      omega
  · rw [get_snoc _ _ _ (by rw [h.ul]; omega), h.ul]
    by_cases e : i = k
    · subst e
      rw [if_pos rfl, h1.not_cov (Int.le_refl _)]
      decide
    · rw [if_neg e]
      exact h.c i (by omega)
/-- a packet is sent and arrives -/
theorem TrOk.come (h : TrOk R T U zs n k) (hb : ∀ p ∈ R.l, p.pn < R.nx) (p : Pk) (hp : p.pn = k) {few : Int} (ok : TkOk zs' n' ((k : Int) + 1) k k (few + 1)) (hf : few ≤ k) (hc : ∀ i, covB zs' n' i = (covB zs n i || decide (i = (k : Int)))) :
    TrOk (R.add p) (T ++ [0]) ((U ++ [0]).set k 1) zs' n' (k + 1) := by
  have hl := h.lost hb p hp
  refine ⟨⟨k, k, few + 1, ok, by omega, by push_cast; omega, by omega, by push_cast; omega, by push_cast; omega⟩, hl.tl, by simp [h.ul], hl.nx, fun i hi => ?_, fun i hi => ?_⟩
  · have h1 := hl.t i hi
    rw [List.getElem?_set]
    by_cases e : k = i
    · subst e
      have ht0 := hl.t k (by omega)
      have hu : (U ++ [0])[k]?.getD (0 : Int) = 0 := by rw [get_snoc _ _ _ (by rw [h.ul]; omega), h.ul, if_pos rfl]
      rw [if_pos rfl, if_pos (by simp [h.ul])]
      simp only [Option.getD_some]
      exact ⟨by omega, by omega, by simp, by omega⟩
    · rw [if_neg e]; exact h1
  · have h1 := hl.c i hi
    rw [List.getElem?_set, hc, Bool.or_eq_true, decide_eq_true_eq]
    by_cases e : k = i
    · subst e
      rw [if_pos rfl, if_pos (by simp [h.ul])]
      simp
    · rw [if_neg e, h1]
      constructor
      · exact .inl
      · rintro (h2 | h2)
        · exact h2
        · omega
/-- an ACK frame of the Tracker arrives -/
theorem TrOk.ack (h : TrOk R T U zs n k) (hn : ∀ p ∈ R.l, 0 ≤ p.pn ∧ p.pn < R.nx) (now d : Int) :
    TrOk (R.acked n (fF (rowK zs n n)) (fT (rowK zs n n)) now d) (bump T (R.l.filter (akF n (fF (rowK zs n n)) (fT (rowK zs n n))))) U zs n k ∧
    ∀ p ∈ (R.acked n (fF (rowK zs n n)) (fT (rowK zs n n)) now d).l, covB zs n p.pn = false := by
  have hp : ∀ p ∈ R.l.filter (akF n (fF (rowK zs n n)) (fT (rowK zs n n))), 0 ≤ p.pn := fun p hp => (hn p (List.mem_filter.1 hp).1).1
  refine ⟨⟨h.tk, by rw [bump_len]; exact h.tl, h.ul, h.nx, fun i hi => ?_, h.c⟩, fun p hp => ?_⟩
  · rw [bump_get _ _ _ (by rw [h.tl]; exact hi) hp]
    have h1 := h.t i hi
    have h2 := cntP_split (akF n (fF (rowK zs n n)) (fT (rowK zs n n))) R.l i
    have h3 := cntP_nonneg (R.l.filter (akF n (fF (rowK zs n n)) (fT (rowK zs n n)))) i
    have h4 : cntP (R.acked n (fF (rowK zs n n)) (fT (rowK zs n n)) now d).l i ≤ cntP (R.l.filter (fun p => !akF n (fF (rowK zs n n)) (fT (rowK zs n n)) p)) i := by
      unfold cntP
      have := (List.Sublist.filter (fun p : Pk => p.pn == (i : Int)) (List.filter_sublist (p := fun p => !exF (R.ack n (fF (rowK zs n n)) (fT (rowK zs n n))).lg now d p) (l := (R.ack n (fF (rowK zs n n)) (fT (rowK zs n n))).l))).length_le
      show ((List.filter _ (List.filter _ (R.ack n (fF (rowK zs n n)) (fT (rowK zs n n))).l)).length : Int) ≤ ((List.filter _ (R.ack n (fF (rowK zs n n)) (fT (rowK zs n n))).l).length : Int)
      omega
    have h5 : cntP (R.l.filter (akF n (fF (rowK zs n n)) (fT (rowK zs n n)))) i ≤ 1 ∧ (cntP (R.l.filter (akF n (fF (rowK zs n n)) (fT (rowK zs n n)))) i ≠ 0 → U[i]?.getD 0 = 1) := by
      refine ⟨by have := cntP_nonneg (R.l.filter (fun p => !akF n (fF (rowK zs n n)) (fT (rowK zs n n)) p)) i; omega, fun hne => ?_⟩
      rw [h.c i hi]
      unfold cntP at hne
      obtain ⟨p, hp⟩ := List.exists_mem_of_ne_nil ((R.l.filter (akF n (fF (rowK zs n n)) (fT (rowK zs n n)))).filter (fun p => p.pn == (i : Int))) (fun e => hne (by rw [e]; rfl))
      obtain ⟨h6, h7⟩ := List.mem_filter.1 hp
      have h8 := (List.mem_filter.1 h6).2
      unfold akF at h8
      rw [row_cov, beq_iff_eq.1 h7] at h8
      exact h8
    have h6 := cntP_nonneg (R.acked n (fF (rowK zs n n)) (fT (rowK zs n n)) now d).l i
    have h7 := cntP_nonneg R.l i
    by_cases h8 : cntP (R.l.filter (akF n (fF (rowK zs n n)) (fT (rowK zs n n)))) i = 0
    · omega
    · have := h5.2 h8
      have := cntP_nonneg (R.l.filter (fun p => !akF n (fF (rowK zs n n)) (fT (rowK zs n n)) p)) i
      omega
  · have := (acked_sub R n _ _ now d p hp).2.1
    unfold akF at this
    rw [row_cov] at this
    exact this
theorem TrOk.fewT (h : TrOk R T U zs n k) (hk : k ≤ 100) : Few T := by
  refine ⟨by rw [h.tl]; omega, fun i => ?_⟩
  by_cases hi : i < k
  · have := h.t i hi; omega
  · rw [List.getElem?_eq_none (by rw [h.tl]; omega)]; simp
theorem TrOk.inT (h : TrOk R T U zs n k) {l : List Pk} (hb : ∀ q ∈ l, 0 ≤ q.pn ∧ q.pn < R.nx) : InT T l := fun q hq => by
  have := hb q hq
  rw [h.nx] at this
  rw [h.tl]
  exact this
end Go.Proofs.YtpfkeohaaeiaaaaGreat
