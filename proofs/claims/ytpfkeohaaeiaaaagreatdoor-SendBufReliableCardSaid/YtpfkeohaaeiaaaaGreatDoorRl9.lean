/- Texts FTkb FTkc FCopy FTkd FTke FTkf FTkg FTkk of this claim, one behind the other. -/
import Derived.Test.YtpfkeohaaeiaaaaGreatDoorRl8
import Derived.Test.YtpfkeohaaeiaaaaGreatDoorRl7
import Derived.Test.YtpfkeohaaeiaaaaGreatDoorRl3
import Derived.Laws.CopyOwn
import Derived.Laws.IdiomCopy
import Derived.Laws.CopyRow
import Derived.StillTailTactics
/- Law 13: has and place. -/
namespace Go.Proofs.YtpfkeohaaeiaaaaGreatDoor.frm
open Go.RowKit Go.Sort Go.Shelf
set_option maxRecDepth 100000
attribute [local go_sem] Oper.semAt_some
set_option maxRecDepth 100000 in
theorem all62 (p : Option Addr) (w : World) : Calls Tryz.prog 84 #[.pointer p] w fun e w' => e = .returned (.func (.func 116) #[] #[.pointer (some ⟨w.heap.size, 0, none⟩)]) ∧ w' = w.alloc (.cells #[.pointer p] 176) := by
  go_enter Tryz.func84, Tryz.ntmps84
  go_wp2
  go_ret
  exact ⟨rfl, rfl⟩
def conB (pn : Int) (x : Nat × Int × Int) : Bool := decide (x.2.1 ≤ pn) && decide (pn < x.2.2)
def hasB (pn : Int) (l : List (Nat × Int × Int)) : Bool := l.any (conB pn)
theorem hasB_snoc (pn : Int) (l : List (Nat × Int × Int)) (x : Nat × Int × Int) : hasB pn (l ++ [x]) = (hasB pn l || conB pn x) := by simp [hasB]
theorem hasB_pre {pn : Int} {l l' : List (Nat × Int × Int)} (h : l <+: l') (hb : hasB pn l = true) : hasB pn l' = true := by
  obtain ⟨t, rfl⟩ := h
  unfold hasB at *
  rw [List.any_append, hb]; rfl
theorem boxes3 (w : World) (o1 o2 o3 : Obj) : ((w.alloc o1).alloc o2).alloc o3 = ((w.alloc o1).alloc o2).alloc o3 ∧ (((w.alloc o1).alloc o2).alloc o3).heap[w.heap.size]? = some o1 ∧ (((w.alloc o1).alloc o2).alloc o3).heap[w.heap.size + 1]? = some o2 ∧ (((w.alloc o1).alloc o2).alloc o3).heap[w.heap.size + 2]? = some o3 ∧
    Below w.heap.size w (((w.alloc o1).alloc o2).alloc o3) ∧ (((w.alloc o1).alloc o2).alloc o3).heap.size = w.heap.size + 3 := by
  refine ⟨rfl, ?_, ?_, ?_, ((((Below.refl _ w).alloc (Nat.le_refl _) _).alloc (by simp) _).alloc (by simp; omega) _), by simp⟩
  · rw [Below.heap_alloc _ _ _ (by simp; omega), Below.heap_alloc _ _ _ (by simp)]; exact heap_alloc_new w _
  · rw [Below.heap_alloc _ _ _ (by simp)]; have := heap_alloc_new (w.alloc o1) o2; rwa [World.size_alloc] at this
  · have := heap_alloc_new ((w.alloc o1).alloc o2) o3; rwa [World.size_alloc, World.size_alloc] at this
set_option maxRecDepth 100000 in
set_option maxHeartbeats 4000000 in
theorem has_any (t m : Nat) (zs : List Int) (pn : Int) (w : World) (hT : TkAt w t zs) (hm : m ≤ 17) (hz : zs[34]?.getD (0:Int) = (m:Int)) :
    Calls Tryz.prog 78 #[.pointer (some ⟨t, 0, none⟩), .int .i64 pn] w fun e w' => e = .returned (.bool (hasB pn (ivs zs m))) ∧ Below w.heap.size w w' := by
  have X := Lib.hid (boxes3 w (.cells #[.int .i64 pn] 3) (.cells #[.bool false] 4) (.cells #[.pointer (some ⟨t, 0, none⟩)] 176))
  have HT := Lib.hid (And.intro hT hz)
  clear hT hz
  refine (callsIn_wide (n := 8)).1 ?_
  refine callsIn_of_wp_marks Tryz.func78 rfl trivial ?_ rfl
  simp only [Tryz.ntmps78, List.size_toArray, List.length_cons, List.length_nil, Nat.reduceAdd, Nat.reduceSub, Array.replicate_succ, Array.replicate_zero, List.push_toArray, List.append_toArray, List.nil_append, List.cons_append]
  gi_wp2_with (refine ⟨trivial, (callsIn_wide.2 (all62 _ _)).mono ?_⟩; rintro e w' ⟨rfl, rfl⟩)
  generalize ((w.alloc _).alloc _).alloc _ = W0 at X ⊢
  obtain ⟨_, X1, X2, X3, X4, X5⟩ := X.out
  refine wpIn_rangeFunc_ownH rfl (by decide) (gf := 116) (lb := #[.pointer (some ⟨w.heap.size + 2, 0, none⟩)]) rfl trivial (enters_of Tryz.func116 (by kernel_rfl) rfl)
    (iv_stops 7 (by decide) (w.heap.size + 2) t m zs hm W0 (by omega) (at_whole X3 0 rfl) (HT.out.1.block (X4.block t HT.out.1.lt)) HT.out.2)
    (fun h k => h.trans k) (kpT_b (by omega) (by have := HT.out.1.lt; omega)) (Below.refl _ _) (fun _ => rfl)
    (fun pre W => (W.heap[w.heap.size]? = some (.cells #[.int .i64 pn] 3 (0, 0)) ∧ (W.heap[w.heap.size + 2]? = some (.cells #[.pointer (some ⟨t, 0, none⟩)] 176 (0, 0)) ∧ (W.heap[w.heap.size + 1]? = some (.cells #[.bool false] 4 (0, 0)) ∧ hasB pn pre = false))) ∧ Below w.heap.size w W)
    (fun c pre W => (W.heap[w.heap.size + 1]? = some (.cells #[.bool true] 4 (0, 0)) ∧ (c = .ret ∧ hasB pn pre = true)) ∧ Below w.heap.size w W)
    (OwnFrom.and (OwnFrom.and (heap_own _ _ _ _) (OwnFrom.and (heap_own _ _ _ _) (OwnFrom.and (heap_own _ _ _ _) (fun s _ _ _ hs _ _ => hs)))) (ownFrom_below (Nat.le_refl _) (by omega)))
    (fun c => OwnFrom.and (OwnFrom.and (heap_own _ _ _ _) (fun s _ _ _ hs _ _ => hs)) (ownFrom_below (Nat.le_refl _) (by omega)))
    ⟨⟨X1, X3, X2, rfl⟩, X4⟩
    (fun x a' W => ∃ Bx, W0.heap.size ≤ Bx ∧ W.heap[Bx]? = some (.cells #[.int .i64 x.2.1, .int .i64 x.2.2] 103 (0, 0)) ∧ a' = { tmps := #[.pointer (some ⟨t, 0, none⟩), .int .i64 pn, undef, .pointer (some ⟨w.heap.size, 0, none⟩), .pointer (some ⟨w.heap.size + 1, 0, none⟩), undef, .pointer (some ⟨Bx, 0, none⟩), .pointer (some ⟨t, 0, none⟩), .func (.func 116) #[] #[.pointer (some ⟨w.heap.size + 2, 0, none⟩)], .int .i64 x.1, .agg #[.int .i64 x.2.1, .int .i64 x.2.2], undef, undef, undef, undef, undef, undef, undef, undef, undef, undef], defers := [] })
    (fun x a' s A C row hs hg hr => by
      obtain ⟨Bx, h1, h2, h3⟩ := hs
      exact ⟨Bx, h1, heap_own _ _ _ _ () A C row h2 hg hr, h3⟩)
    ?assign ?body ?done ?stop
  case assign =>
    rintro ly pre ⟨k, f, tt⟩ W K hi hK
    simp only [encIv] at hK ⊢
    have H1 := Lib.hid (And.intro hi hK)
    clear hi hK
    gi_wp2
    obtain ⟨⟨q1, q2, q3, q4⟩, q5⟩ := H1.out.1
    have hs := heap_lt q2
    have ht := HT.out.1.lt
    refine H1.out.2 _ _ ((KeepsOthers.alloc _ _).from _) (KpT.below ((Below.refl _ W).alloc (Nat.le_refl _) _) (by omega) (by omega)) ?_ ⟨W.heap.size, by omega, heap_alloc_new W _, rfl⟩
    exact ⟨⟨(Below.heap_alloc W _ _ (heap_lt q1)).trans q1, (Below.heap_alloc W _ _ (heap_lt q2)).trans q2, (Below.heap_alloc W _ _ (heap_lt q3)).trans q3, q4⟩, q5.trans ((Below.refl _ W).alloc q5.size _)⟩
  case body =>
    rintro ly pre ⟨k, f, tt⟩ a' W hl ⟨r, hr⟩ ⟨⟨q1, q2, q3, q4⟩, q5⟩ ⟨Bx, hBx, hbx, rfl⟩ hlen
    simp only at hbx ⊢
    have l0 := at_whole hbx 0 rfl
    have l1 := at_whole hbx 1 rfl
    have c0 := at_whole q1 0 rfl
    have c1 := at_whole q3 0 rfl
    have z1 := frozen_of_row W (w.heap.size + 1) 0 _ 4 q3
    simp only [List.getElem_toArray, List.getElem_cons_zero, List.getElem_cons_succ] at l0 l1 c0 c1
    have AS := Lib.hid (hasB_snoc pn pre (k, f, tt))
    have G := Lib.hid (And.intro q1 (And.intro q2 (And.intro q3 (And.intro q4 q5))))
    clear q1 q2 q3 q4 q5 hbx
    by_cases h1 : f ≤ pn
    · by_cases h2 : pn < tt
      · have e : Hid (conB pn (k, f, tt) = true) := Lib.hid (by simp [conB, h1, h2])
        gi_wp2
        refine ⟨(KeepsOthers.setCell _ _ _).from _, ⟨⟨?_, rfl, by rw [AS.out, e.out, Bool.or_true]⟩, G.out.2.2.2.2.setCell (p := ⟨w.heap.size + 1, 0, none⟩) (by simp) _⟩⟩
        exact heap_setCell_same W (w.heap.size + 1) 0 _ 4 _ G.out.2.2.1
      · have e : Hid (conB pn (k, f, tt) = false) := Lib.hid (by simp [conB, h2])
        gi_wp2
        exact ⟨(KeepsOthers.refl _).from _, KpT.refl _ _ _, ⟨⟨G.out.1, G.out.2.1, G.out.2.2.1, by rw [AS.out, e.out, G.out.2.2.2.1]; rfl⟩, G.out.2.2.2.2⟩⟩
    · have e : Hid (conB pn (k, f, tt) = false) := Lib.hid (by simp [conB, h1])
      gi_wp2
      exact ⟨(KeepsOthers.refl _).from _, KpT.refl _ _ _, ⟨⟨G.out.1, G.out.2.1, G.out.2.2.1, by rw [AS.out, e.out, G.out.2.2.2.1]; rfl⟩, G.out.2.2.2.2⟩⟩
  case done => 
    rintro D ys W hD rfl ⟨⟨q1, q2, q3, q4⟩, q5⟩ hK
    have H := Lib.hid (And.intro q3 (And.intro q4 (And.intro q5 hK)))
    have c1 := at_whole q3 0 rfl
    have z1 := frozen_of_row W (w.heap.size + 1) 0 _ 4 q3
    simp only [List.getElem_toArray, List.getElem_cons_zero] at c1
    clear q1 q2 q3 q4 q5 hK
    gi_wp2
    refine ⟨by simp, .inl ⟨_, _, rfl, run_takeDeferred ((KeepsOthers.setCell _ _ _).same D _ H.out.2.2.2 rfl), ?_⟩⟩
    have hD2 : w.heap.size + 1 ≠ D := by omega
    have hc := at_whole ((World.putObj_heap_other (w := W.setCell ⟨w.heap.size + 1, 0, none⟩ (.bool false)) (o := .deferred none) hD2).trans (heap_setCell_same W (w.heap.size + 1) 0 _ 4 (.bool false) H.out.1)) 0 rfl
    refine ⟨.bool false, by simp [results, Tryz.f78, go_sem, hc], ?_, ?_⟩
    · rw [H.out.2.1]
    · have hb := H.out.2.2.1.setCell (p := ⟨w.heap.size + 1, 0, none⟩) (by simp) (.bool false)
      exact hb.trans (belowK_b (w := w) (Nat.le_refl _) _ D _ _ (by omega) ((KeepsOthers.setCell W ⟨w.heap.size + 1, 0, none⟩ (.bool false)).same D _ H.out.2.2.2 rfl) rfl rfl)
  case stop =>
    rintro D c pre W hD ⟨k, hk, rfl⟩ ⟨⟨q1, rfl, q2⟩, q3⟩ hK
    have H := Lib.hid (And.intro q1 (And.intro q2 (And.intro q3 hK)))
    have c1 := at_whole q1 0 rfl
    simp only [List.getElem_toArray, List.getElem_cons_zero] at c1
    clear q1 q2 q3 hK
    gi_wp2
    refine ⟨by simp, .inl ⟨_, _, rfl, run_takeDeferred H.out.2.2.2, ?_⟩⟩
    have hD2 : w.heap.size + 1 ≠ D := by omega
    have hc := at_whole ((World.putObj_heap_other (w := W) (o := .deferred none) hD2).trans H.out.1) 0 rfl
    refine ⟨.bool true, by simp [results, Tryz.f78, go_sem, hc], ?_, ?_⟩
    · rw [hasB_pre (ivs_pre zs (show k + 1 ≤ m by omega)) H.out.2.1]
    · exact H.out.2.2.1.trans (belowK_b (w := w) (Nat.le_refl _) _ D _ _ (by omega) H.out.2.2.2 rfl rfl)
end Go.Proofs.YtpfkeohaaeiaaaaGreatDoor.frm
/- Law 13: place. -/
namespace Go.Proofs.YtpfkeohaaeiaaaaGreatDoor.frm
open Go.RowKit Go.Sort Go.Shelf
set_option maxRecDepth 100000
attribute [local go_sem] Oper.semAt_some
def lowB (pn : Int) (l : List (Nat × Int × Int)) : Bool := l.all (fun x => decide (x.2.2 < pn))
theorem lowB_snoc {pn : Int} {l : List (Nat × Int × Int)} {x : Nat × Int × Int} (h : lowB pn l = true) (hx : x.2.2 < pn) : lowB pn (l ++ [x]) = true := by
  unfold lowB at *
  rw [List.all_append, h]
  simp [hx]
theorem lowB_at {pn : Int} {zs : List Int} {n : Nat} (h : lowB pn (ivs zs n) = true) (j : Nat) (hj : j < n) : zs[j * 2 + 1]?.getD 0 < pn := by
  have := List.all_eq_true.1 h (ivAt zs j) (List.mem_map.2 ⟨j, List.mem_range.2 hj, rfl⟩)
  exact of_decide_eq_true this
/-- where a number is put -/
def PlacePost (zs : List Int) (m : Nat) (pn : Int) (w : World) (e : Ending) (w' : World) : Prop :=
  ∃ k : Nat, k ≤ m ∧ e = .returned (.int .i64 k) ∧ lowB pn (ivs zs k) = true ∧ (k < m → pn ≤ zs[k * 2 + 1]?.getD 0) ∧ Below w.heap.size w w'
set_option maxRecDepth 100000 in
set_option maxHeartbeats 4000000 in
theorem place_any (t m : Nat) (zs : List Int) (pn : Int) (w : World) (hT : TkAt w t zs) (hm : m ≤ 17) (hz : zs[34]?.getD (0:Int) = (m:Int)) :
    Calls Tryz.prog 115 #[.pointer (some ⟨t, 0, none⟩), .int .i64 pn] w (PlacePost zs m pn w) := by
  have X := Lib.hid (boxes3 w (.cells #[.int .i64 pn] 3) (.cells #[.int .i64 m] 3) (.cells #[.pointer (some ⟨t, 0, none⟩)] 176))
  have y34 := hT.cell 34 (by decide)
  rw [hz] at y34
  have y35 := cell_alloc_l (.cells #[.int .i64 pn] 3) y34
  have HT := Lib.hid (And.intro hT hz)
  clear hT hz
  refine (callsIn_wide (n := 8)).1 ?_
  refine callsIn_of_wp_marks Tryz.func115 rfl trivial ?_ rfl
  simp only [Tryz.ntmps115, List.size_toArray, List.length_cons, List.length_nil, Nat.reduceAdd, Nat.reduceSub, Array.replicate_succ, Array.replicate_zero, List.push_toArray, List.append_toArray, List.nil_append, List.cons_append]
  gi_wp2
  refine wpIn_scope_straight ?_
  gi_wp2
  refine wpIn_label ?_
  rw [show ∀ (K : Act → World → Prop) Q a w, Exit.then K Q .normal a w = K a w from fun _ _ _ _ => rfl]
  gi_wp2_with (refine ⟨trivial, (callsIn_wide.2 (all62 _ _)).mono ?_⟩; rintro e w' ⟨rfl, rfl⟩)
  generalize ((w.alloc _).alloc _).alloc _ = W0 at X ⊢
  obtain ⟨_, X1, X2, X3, X4, X5⟩ := X.out
  clear y34 y35
  refine wpIn_rangeFunc_ownH rfl (by decide) (gf := 116) (lb := #[.pointer (some ⟨w.heap.size + 2, 0, none⟩)]) rfl trivial (enters_of Tryz.func116 (by kernel_rfl) rfl)
    (iv_stops 7 (by decide) (w.heap.size + 2) t m zs hm W0 (by omega) (at_whole X3 0 rfl) (HT.out.1.block (X4.block t HT.out.1.lt)) HT.out.2)
    (fun h k => h.trans k) (kpT_b (by omega) (by have := HT.out.1.lt; omega)) (Below.refl _ _) (fun _ => rfl)
    (fun pre W => (W.heap[w.heap.size]? = some (.cells #[.int .i64 pn] 3 (0, 0)) ∧ (W.heap[w.heap.size + 2]? = some (.cells #[.pointer (some ⟨t, 0, none⟩)] 176 (0, 0)) ∧ (W.heap[w.heap.size + 1]? = some (.cells #[.int .i64 m] 3 (0, 0)) ∧ lowB pn pre = true))) ∧ Below w.heap.size w W)
    (fun c pre W => ((∃ pre' x, W.heap[w.heap.size + 1]? = some (.cells #[.int .i64 (x : Nat × Int × Int).1] 3 (0, 0)) ∧ pre = pre' ++ [x] ∧ lowB pn pre' = true ∧ pn ≤ x.2.2) ∧ c = .exit 0) ∧ Below w.heap.size w W)
    (OwnFrom.and (OwnFrom.and (heap_own _ _ _ _) (OwnFrom.and (heap_own _ _ _ _) (OwnFrom.and (heap_own _ _ _ _) (fun s _ _ _ hs _ _ => hs)))) (ownFrom_below (Nat.le_refl _) (by omega)))
    (fun c => OwnFrom.and (OwnFrom.and (fun s A C row hs hg hr => by obtain ⟨p', x, h1, h2⟩ := hs; exact ⟨p', x, heap_own _ _ _ _ () A C row h1 hg hr, h2⟩) (fun s _ _ _ hs _ _ => hs)) (ownFrom_below (Nat.le_refl _) (by omega)))
    ⟨⟨X1, X3, X2, rfl⟩, X4⟩
    (fun x a' W => ∃ Bx, W0.heap.size ≤ Bx ∧ W.heap[Bx]? = some (.cells #[.int .i64 x.2.1, .int .i64 x.2.2] 103 (0, 0)) ∧ a' = { tmps := #[.pointer (some ⟨t, 0, none⟩), .int .i64 pn, undef, .pointer (some ⟨w.heap.size, 0, none⟩), .int .i64 0, .pointer (some ⟨w.heap.size + 1, 0, none⟩), .int .i64 x.1, .pointer (some ⟨Bx, 0, none⟩), .pointer (some ⟨t, 0, none⟩), .pointer (some ⟨t, 0, none⟩), .pointer (some ⟨t, 34, none⟩), .int .i64 m, .pointer (some ⟨t, 0, none⟩), .func (.func 116) #[] #[.pointer (some ⟨w.heap.size + 2, 0, none⟩)], .int .i64 x.1, .agg #[.int .i64 x.2.1, .int .i64 x.2.2], undef, undef, undef, undef, undef, undef], defers := [] })
    (fun x a' s A C row hs hg hr => by
      obtain ⟨Bx, h1, h2, h3⟩ := hs
      exact ⟨Bx, h1, heap_own _ _ _ _ () A C row h2 hg hr, h3⟩)
    ?assign ?body ?done ?stop
  case assign =>
    rintro ly pre ⟨k, f, tt⟩ W K hi hK
    simp only [encIv] at hK ⊢
    have H1 := Lib.hid (And.intro hi hK)
    clear hi hK
    gi_wp2
    obtain ⟨⟨q1, q2, q3, q4⟩, q5⟩ := H1.out.1
    have hs := heap_lt q2
    have ht := HT.out.1.lt
    refine H1.out.2 _ _ ((KeepsOthers.alloc _ _).from _) (KpT.below ((Below.refl _ W).alloc (Nat.le_refl _) _) (by omega) (by omega)) ?_ ⟨W.heap.size, by omega, heap_alloc_new W _, rfl⟩
    exact ⟨⟨(Below.heap_alloc W _ _ (heap_lt q1)).trans q1, (Below.heap_alloc W _ _ (heap_lt q2)).trans q2, (Below.heap_alloc W _ _ (heap_lt q3)).trans q3, q4⟩, q5.trans ((Below.refl _ W).alloc q5.size _)⟩
  case body =>
    rintro ly pre ⟨k, f, tt⟩ a' W hl ⟨r, hr⟩ ⟨⟨q1, q2, q3, q4⟩, q5⟩ ⟨Bx, hBx, hbx, rfl⟩ hlen
    simp only at hbx ⊢
    have l0 := at_whole hbx 0 rfl
    have l1 := at_whole hbx 1 rfl
    have c0 := at_whole q1 0 rfl
    have c1 := at_whole q3 0 rfl
    have z1 := frozen_of_row W (w.heap.size + 1) 0 _ 3 q3
    simp only [List.getElem_toArray, List.getElem_cons_zero, List.getElem_cons_succ] at l0 l1 c0 c1
    have G := Lib.hid (And.intro q1 (And.intro q2 (And.intro q3 (And.intro q4 q5))))
    clear q1 q2 q3 q4 q5 hbx
    by_cases h2 : pn ≤ tt
    · have h2' := Lib.hid h2
      gi_wp2
      refine ⟨(KeepsOthers.setCell _ _ _).from _, ⟨⟨pre, (k, f, tt), ?_, rfl, G.out.2.2.2.1, h2'.out⟩, rfl⟩, G.out.2.2.2.2.setCell (p := ⟨w.heap.size + 1, 0, none⟩) (by simp) _⟩
      exact heap_setCell_same W (w.heap.size + 1) 0 _ 3 _ G.out.2.2.1
    · have e := Lib.hid (lowB_snoc (x := (k, f, tt)) G.out.2.2.2.1 (by show tt < pn; omega))
      gi_wp2
      exact ⟨(KeepsOthers.refl _).from _, KpT.refl _ _ _, ⟨⟨G.out.1, G.out.2.1, G.out.2.2.1, e.out⟩, G.out.2.2.2.2⟩⟩
  case done =>
    rintro D ys W hD rfl ⟨⟨q1, q2, q3, q4⟩, q5⟩ hK
    have H := Lib.hid (And.intro q3 (And.intro q4 (And.intro q5 hK)))
    have c1 := at_whole q3 0 rfl
    simp only [List.getElem_toArray, List.getElem_cons_zero] at c1
    clear q1 q2 q3 q4 q5 hK
    gi_wp2
    refine ⟨by simp, .inl ⟨_, _, rfl, run_takeDeferred H.out.2.2.2, ?_⟩⟩
    exact ⟨_, results_tmp rfl _ _ _, m, Nat.le_refl _, rfl, H.out.2.1, fun h => absurd h (Nat.lt_irrefl _), H.out.2.2.1.trans (belowK_b (w := w) (Nat.le_refl _) _ D _ _ (by omega) H.out.2.2.2 rfl rfl)⟩
  case stop =>
    rintro D c pre W hD ⟨k, hk, rfl⟩ ⟨⟨⟨pre', x, q1, e, q2, q3⟩, rfl⟩, q5⟩ hK
    rw [ivs_succ] at e
    obtain ⟨e1, e2⟩ := List.append_inj' e rfl
    obtain rfl : ivAt zs k = x := by simpa using e2
    subst e1
    simp only [ivAt] at q1 q3
    have H := Lib.hid (And.intro q1 (And.intro q2 (And.intro q3 (And.intro q5 hK))))
    have c1 := at_whole q1 0 rfl
    simp only [List.getElem_toArray, List.getElem_cons_zero] at c1
    clear q1 q2 q3 q5 hK e e2
    gi_wp2
    refine ⟨by simp, .inl ⟨_, _, rfl, run_takeDeferred H.out.2.2.2.2, ?_⟩⟩
    exact ⟨_, results_tmp rfl _ _ _, k, by omega, rfl, H.out.2.1, fun _ => H.out.2.2.1, H.out.2.2.2.1.trans (belowK_b (w := w) (Nat.le_refl _) _ D _ _ (by omega) H.out.2.2.2.2 rfl rfl)⟩
end Go.Proofs.YtpfkeohaaeiaaaaGreatDoor.frm
/- copy where an element has several cells: nothing goes over; a row laid over a whole block. -/
namespace Go.Proofs.YtpfkeohaaeiaaaaGreatDoor.frm
open Go.RowKit
set_option maxRecDepth 100000
variable {P : Program}
theorem run_copy_noneS (w : World) (dT sT ty elem : TypeId) (d a : Option Addr) (dLen dCap sLen sCap : Nat) (hu : P.underlying dT = some (.slice elem)) (hs : ((P.info? elem).map (·.size)).isSome = true) (hn : Nat.min sLen dLen = 0) :
    (Builtin.copy_ #[dT, sT] ty #[.slice d dLen dCap, .slice a sLen sCap]).run P w = .ok (goInt 0) w := by
  cases hq : P.info? elem with
  | none => simp [hq] at hs
  | some i =>
    have hl : ∀ (x : Addr), (loadCells x 0).run P w = .ok #[] w := fun x => by simpa using run_loadCells_list (P := P) w x [] (by simp)
    cases d <;> cases a <;> simp [Builtin.copy_, run_underlying hu, Builtin.lenOf, Builtin.firstCells, sizeOf, typeInfo, hq, hn, storeCells, hl]
theorem run_copy_rowS (w : World) (dT sT ty elem : TypeId) (size n : Nat) (g o dLen dCap : Nat) (a : Addr) (sLen sCap : Nat) (cur : Array Value) (t : TypeId) (cs : List Value)
    (hu : P.underlying dT = some (.slice elem)) (hs : (P.info? elem).map (·.size) = some size)
    (hg : w.heap[g]? = some (.cells cur t (0, 0))) (hn : n = Nat.min sLen dLen) (hcs : cs.length = n * size)
    (hsrc : ∀ j v, cs[j]? = some v → w.cell? (a.add j) = some v) (hfit : o + cs.length ≤ cur.size) (h1 : ∀ v ∈ cs, v.oneCell' = true) :
    (Builtin.copy_ #[dT, sT] ty #[.slice (some ⟨g, o, none⟩) dLen dCap, .slice (some a) sLen sCap]).run P w =
      .ok (goInt n) (w.setRow g (cur.toList.take o ++ cs ++ cur.toList.drop (o + cs.length)).toArray) := by
  have hl := run_loadCells_list (P := P) w a cs hsrc
  have hst := run_storeCells_at P g o t cs 0 cur w hg (by simpa using hfit) h1
  rw [hcs] at hl
  cases hq : P.info? elem with
  | none => simp [hq] at hs
  | some i =>
    have hi : i.size = size := by simpa [hq] using hs
    simp [Builtin.copy_, run_underlying hu, Builtin.lenOf, Builtin.firstCells, sizeOf, typeInfo, hq, hi, ← hn, hl, hst]
theorem wpList_copy_noneS {w : World} {ops : Array Oper} {rest : List Oper} {o : Oper} {a : Act} {Q : Exit → Act → World → Prop} (hgd : o.guard = none) (d s : Operand) (dT sT : TypeId)
    (ho : o.op = .call { callee := .builtin .copy, args := #[d, s], argTypes := #[dT, sT] }) (elem : TypeId) (hu : P.underlying dT = some (.slice elem)) (hsz : ((P.info? elem).map (·.size)).isSome = true)
    (dp sp : Option Addr) (dLen dCap sLen sCap : Nat) (hd : a.eval d = .slice dp dLen dCap) (hs : a.eval s = .slice sp sLen sCap) (hn : Nat.min sLen dLen = 0)
    (h : wpList P ops Q rest (a.put o.dst (goInt 0)) w) : wpList P ops Q (o :: rest) a w := by
  refine wpList_plain hgd fun K hK => ?_
  have hrun := run_copy_noneS (P := P) w dT sT o.type elem dp sp dLen dCap sLen sCap hu hsz hn
  unfold Oper.wp
  simp [execOp, ho, resolve, invoke, builtin, hd, hs, hrun, Result.andThen]
  exact hK _ _ h
theorem wpList_copy_rowS {w : World} {ops : Array Oper} {rest : List Oper} {o : Oper} {a : Act} {Q : Exit → Act → World → Prop} (hgd : o.guard = none) (d s : Operand) (dT sT : TypeId)
    (ho : o.op = .call { callee := .builtin .copy, args := #[d, s], argTypes := #[dT, sT] }) (elem : TypeId) (size n : Nat) (hu : P.underlying dT = some (.slice elem)) (hsz : (P.info? elem).map (·.size) = some size)
    (g off dLen dCap : Nat) (ad : Addr) (sLen sCap : Nat) (hd : a.eval d = .slice (some ⟨g, off, none⟩) dLen dCap) (hs : a.eval s = .slice (some ad) sLen sCap)
    (cur : Array Value) (t : TypeId) (hg : w.heap[g]? = some (.cells cur t (0, 0))) (cs : List Value) (hn : n = Nat.min sLen dLen) (hcs : cs.length = n * size)
    (hsrc : ∀ j v, cs[j]? = some v → w.cell? (ad.add j) = some v) (hfit : off + cs.length ≤ cur.size) (h1 : ∀ v ∈ cs, v.oneCell' = true)
    (h : wpList P ops Q rest (a.put o.dst (goInt n)) (w.setRow g (cur.toList.take off ++ cs ++ cur.toList.drop (off + cs.length)).toArray)) : wpList P ops Q (o :: rest) a w := by
  refine wpList_plain hgd fun K hK => ?_
  rw [List.append_assoc] at h
  have hrun := run_copy_rowS (P := P) w dT sT o.type elem size n g off dLen dCap ad sLen sCap cur t cs hu hsz hg hn hcs hsrc hfit h1
  unfold Oper.wp
  simp [execOp, ho, resolve, invoke, builtin, hd, hs, hrun, Result.andThen]
  exact hK _ _ h
end Go.Proofs.YtpfkeohaaeiaaaaGreatDoor.frm
/- Law 13: add, where the number lies at or behind the end. -/
namespace Go.Proofs.YtpfkeohaaeiaaaaGreatDoor.frm
open Go.RowKit Go.Sort
set_option maxRecDepth 100000
/-- only the Tracker has turned -/
theorem Tu.set1 {t : Nat} (w : World) (i : Nat) (x : Value) : Tu t t w (w.setCell ⟨t, i, none⟩ x) := Tu.set w i x
def AddPost (zs' : List Int) (t : Nat) (w : World) (e : Ending) (w' : World) : Prop := e = .returned (.tuple #[]) ∧ TkAt w' t zs' ∧ Tu t t w w'
set_option maxRecDepth 100000 in
set_option maxHeartbeats 4000000 in
/-- the last interval ends just there: it is made longer -/
theorem add_end (t m : Nat) (zs : List Int) (pn : Int) (w : World) (hT : TkAt w t zs) (hm : m ≤ 16) (hz : zs[34]?.getD (0:Int) = ((m + 1 : Nat):Int)) (hl : ∀ k, k < m → zs[k * 2 + 1]?.getD 0 < pn) (he : zs[m * 2 + 1]?.getD 0 = pn) (h0 : 0 ≤ pn) (h1 : pn ≤ 281474976710656) :
    Calls Tryz.prog 79 #[.pointer (some ⟨t, 0, none⟩), .int .i64 pn] w (AddPost (zs.set (m * 2 + 1) (pn + 1)) t w) := by
  have P := Lib.hid (place_any t (m + 1) zs pn w hT (by omega) hz)
  have HT := Lib.hid (And.intro hT (And.intro hz (And.intro hl he)))
  clear hT hz hl he
  go_enter Tryz.func79, Tryz.ntmps79
  go_wp2_with fail
  refine P.out.mono ?_
  rintro e w1 ⟨k, hk, rfl, hlow, hat, hb⟩
  have ek : k = m := by
    rcases Nat.lt_trichotomy k m with h | h | h
    · have := hat (by omega); have := HT.out.2.2.1 k h; omega
    · exact h
    · have := lowB_at hlow m h; have := HT.out.2.2.2; omega
  subst ek
  have T1 := HT.out.1.block (hb.block t HT.out.1.lt)
  have y34 := T1.cell 34 (by decide)
  have y1 := T1.cell (k * 2 + 1) (by omega)
  have z1 := T1.frozen (k * 2 + 1)
  rw [HT.out.2.1] at y34
  rw [HT.out.2.2.2] at y1
  have HB := Lib.hid (And.intro T1 hb)
  have i1 : (0 : Int) ≤ (k : Int) := by omega
  have i2 : (k : Int) < ((k + 1 : Nat) : Int) := by omega
  clear hlow hat hb T1
  have i5 : (k : Int) < 17 := by omega
  go_wp2
  go_still_tail 12, (by kernel_rfl)
  have T2 : TkAt ((w1.setCell ⟨t, k * 2 + 1, none⟩ (.int .i64 (pn + 1))).drew) t (zs.set (k * 2 + 1) (pn + 1)) := HB.out.1.set _ _
  have y35 := T2.cell 34 (by decide)
  rw [List.getElem?_set_ne (by omega), HT.out.2.1] at y35
  have H2 := Lib.hid (And.intro T2 (show Tu t t w ((w1.setCell ⟨t, k * 2 + 1, none⟩ (.int .i64 (pn + 1))).drew) from ((Tu.below HB.out.2).trans (Tu.set _ _ _)).drew))
  clear T2
  go_wp2
  clear y34 y1 z1 HB
  generalize (w1.setCell _ _).drew = W1 at *
  have i3 : decide ((k : Int) + 1 < ((k + 1 : Nat) : Int)) = false := decide_eq_false (by omega)
  have i4 : IntKind.i64.wrap ((k : Int) + 1) = (k : Int) + 1 := IntWalk.i64_in _ (by omega)
  go_quiet (fail)
  go_wp2
  go_returns
  exact ⟨rfl, H2.out.1, H2.out.2.drewN _⟩
theorem slice_none (t k : Nat) (w : World) (hm : k ≤ 16) : (Instr.sliceAt 104 (.pointer (some ⟨t, 0, none⟩)) (some (.int .i64 k)) (some (.int .i64 k)) none).run Tryz.prog w = .ok (.slice (some ⟨t, k * 2, none⟩) 0 (17 - k)) w := by
  have i6 : (k : Int) ≤ 17 := by omega
  have i7 : ¬ 17 = k := by omega
  simp [go_sem, i6, i7]
theorem slice_from (t k : Nat) (hm : k ≤ 16) : ∃ dp n, ∀ w, (Instr.sliceAt 104 (.pointer (some ⟨t, 0, none⟩)) (some (.int .i64 ((k : Int) + 1))) none none).run Tryz.prog w = .ok (.slice dp n n) w := by
  have i6 : (k : Int) + 1 ≤ 17 := by omega
  have i7 : (0 : Int) ≤ (k : Int) + 1 := by omega
  exact ⟨_, _, fun w => by simp [go_sem, i6, i7]; exact ⟨rfl, rfl⟩⟩
set_option maxRecDepth 100000 in
set_option maxHeartbeats 4000000 in
/-- a new interval behind all of them -/
theorem add_new (t m : Nat) (zs : List Int) (pn : Int) (w : World) (hT : TkAt w t zs) (hm : m ≤ 16) (hz : zs[34]?.getD (0:Int) = (m:Int)) (hl : ∀ k, k < m → zs[k * 2 + 1]?.getD 0 < pn) (h0 : 0 ≤ pn) (h1 : pn ≤ 281474976710656) :
    Calls Tryz.prog 79 #[.pointer (some ⟨t, 0, none⟩), .int .i64 pn] w (AddPost (((zs.set (m * 2) pn).set (m * 2 + 1) (pn + 1)).set 34 ((m : Int) + 1)) t w) := by
  have P := Lib.hid (place_any t m zs pn w hT (by omega) hz)
  have HT := Lib.hid (And.intro hT (And.intro hz hl))
  clear hT hz hl
  go_enter Tryz.func79, Tryz.ntmps79
  go_wp2_with fail
  refine P.out.mono ?_
  rintro e w1 ⟨k, hk, rfl, hlow, hat, hb⟩
  have ek : k = m := by
    rcases Nat.lt_or_ge k m with h | h
    · have := hat h; have := HT.out.2.2 k h; omega
    · omega
  subst ek
  have T1 := HT.out.1.block (hb.block t HT.out.1.lt)
  have y34 := T1.cell 34 (by decide)
  rw [HT.out.2.1] at y34
  have HB := Lib.hid (And.intro T1 hb)
  have i1 : (0 : Int) ≤ (k : Int) := by omega
  have i2 : ((k : Int) < (k : Int)) = False := eq_false (by omega)
  have i3 : (k : Int) ≤ 16 := by omega
  clear hlow hat hb T1
  go_wp2
  have i4 : IntKind.i64.wrap ((k : Int) + 1) = (k : Int) + 1 := IntWalk.i64_in _ (by omega)
  have i5 : (k : Int) + 1 ≤ 17 := by omega
  have hsl : ∀ w, (Instr.sliceAt 104 (.pointer (some ⟨t, 0, none⟩)) (some (.int .i64 k)) (some (.int .i64 k)) none).run Tryz.prog w = .ok (.slice (some ⟨t, k * 2, none⟩) 0 (17 - k)) w := fun w => slice_none t k w hm
  obtain ⟨dp, dn, hsl2⟩ := slice_from t k hm
  go_still_tail 15, (by kernel_rfl)
  refine wpList_copy_noneS rfl (.tmp 115) (.tmp 124) 54 54 rfl 103 Tryz.underlying54 (by kernel_rfl) dp (some ⟨t, k * 2, none⟩) dn dn 0 (17 - k) rfl rfl (by simp) ?_
  have T2 : TkAt w1 t zs := HB.out.1
  have T3 : TkAt w1.drew t zs := HB.out.1
  have H2 := Lib.hid (And.intro T3 (show Tu t t w w1.drew from (Tu.below HB.out.2).drew))
  clear y34 T3
  have y0 := T2.cell (k * 2) (by omega)
  have y1 := T2.cell (k * 2 + 1) (by omega)
  have y34 := T2.cell 34 (by decide)
  rw [HT.out.2.1] at y34
  have z0 := T2.frozen (k * 2)
  have z1 := T2.frozen (k * 2 + 1)
  have z34 := T2.frozen 34
  have i8 : ¬ k * 2 = 34 := by omega
  have i9 : ¬ k * 2 + 1 = 34 := by omega
  have i10 : ¬ 34 = k * 2 := by omega
  have i11 : ¬ 34 = k * 2 + 1 := by omega
  have i12 : (k : Int) < 17 := by omega
  clear T2 hsl hsl2 HB i2
  go_wp2
  go_returns
  exact ⟨rfl, ((H2.out.1.set _ _).set _ _).set _ _, ((H2.out.2.trans (Tu.set _ _ _)).trans (Tu.set _ _ _)).trans (Tu.set _ _ _)⟩
end Go.Proofs.YtpfkeohaaeiaaaaGreatDoor.frm
/- Law 13: schedule, Receive (in order), New. -/
namespace Go.Proofs.YtpfkeohaaeiaaaaGreatDoor.frm
open Go.RowKit Go.Sort
set_option maxRecDepth 100000
theorem TkAt.same {w : World} {t : Nat} {zs : List Int} (h : TkAt w t zs) (i : Nat) (x : Int) (hx : zs[i]?.getD 0 = x) (hi : i < 41) : zs.set i x = zs := by
  have : i < zs.length := by rw [h.1]; exact hi
  rw [List.getElem?_eq_getElem this] at hx
  have hx : zs[i] = x := hx
  rw [← hx]
  exact List.set_getElem_self this
def SchedPost (zs : List Int) (t : Nat) (w w' : World) : Prop :=
  ∃ c d : Int, TkAt w' t ((zs.set 39 c).set 40 d) ∧ 0 ≤ c ∧ c ≤ zs[39]?.getD (0:Int) + 1 ∧ -1 ≤ d ∧ d ≤ 4000000000000 ∧ Tu t t w w'
set_option maxRecDepth 100000 in
set_option maxHeartbeats 4000000 in
theorem sched_any (t : Nat) (zs : List Int) (now : Int) (od : Bool) (w : World) (hT : TkAt w t zs) (dl : Int) (e1 : zs[35]?.getD (0:Int) = dl) (hd1 : 0 ≤ dl) (hd2 : dl ≤ 20) (c : Int) (e2 : zs[39]?.getD (0:Int) = c) (hc1 : 0 ≤ c) (hc2 : c ≤ 1000000000)
    (d : Int) (e3 : zs[40]?.getD (0:Int) = d) (hu1 : -1 ≤ d) (hu2 : d ≤ 4000000000000) (hn1 : 0 ≤ now) (hn2 : now ≤ 1099511627776) :
    Calls Tryz.prog 81 #[.pointer (some ⟨t, 0, none⟩), .int .i64 now, .bool od] w fun e w' => e = .returned (.tuple #[]) ∧ SchedPost zs t w w' := by
  have y35 := hT.cell 35 (by decide)
  have y39 := hT.cell 39 (by decide)
  have y40 := hT.cell 40 (by decide)
  have z39 := hT.frozen 39
  have z40 := hT.frozen 40
  have fin1 : ∀ x : Int, -1 ≤ x → x ≤ 4000000000000 → SchedPost zs t w ((w.setCell ⟨t, 39, none⟩ (.int .i64 (c + 1))).setCell ⟨t, 40, none⟩ (.int .i64 x)) := fun x h1 h2 =>
    ⟨c + 1, x, (hT.set 39 _).set 40 _, by omega, by omega, h1, h2, (Tu.set _ _ _).trans (Tu.set _ _ _)⟩
  have fin2 : SchedPost zs t w (w.setCell ⟨t, 39, none⟩ (.int .i64 (c + 1))) :=
    ⟨c + 1, d, by rw [(hT.set 39 (c + 1)).same 40 d (by rw [List.getElem?_set_ne (by decide)]; exact e3) (by decide)]; exact hT.set 39 _, by omega, by omega, hu1, hu2, Tu.set _ _ _⟩
  have F1 := Lib.hid fin1
  have F2 := Lib.hid fin2
  rw [e1] at y35
  rw [e2] at y39
  rw [e3] at y40
  clear fin1 fin2 hT e1 e2 e3
  by_cases h1 : c + 1 < 2
  · cases od with
    | true =>
      by_cases h2 : d = -1
      · subst h2
        go_enter Tryz.func81, Tryz.ntmps81
        go_wp2
        go_returns
        exact ⟨rfl, F1.out _ (by omega) (by omega)⟩
      · have h2' : (d == -1) = false := beq_eq_false_iff_ne.2 h2
        clear h2
        by_cases h3 : now + dl < d
        · go_enter Tryz.func81, Tryz.ntmps81
          go_wp2
          go_returns
          exact ⟨rfl, F1.out _ (by omega) (by omega)⟩
        · go_enter Tryz.func81, Tryz.ntmps81
          go_wp2
          go_returns
          exact ⟨rfl, F2.out⟩
    | false =>
      by_cases h2 : d = -1
      · subst h2
        go_enter Tryz.func81, Tryz.ntmps81
        go_wp2
        go_returns
        exact ⟨rfl, F1.out _ (by omega) (by omega)⟩
      · have h2' : (d == -1) = false := beq_eq_false_iff_ne.2 h2
        clear h2
        by_cases h3 : now < d
        · go_enter Tryz.func81, Tryz.ntmps81
          go_wp2
          go_returns
          exact ⟨rfl, F1.out _ (by omega) (by omega)⟩
        · go_enter Tryz.func81, Tryz.ntmps81
          go_wp2
          go_returns
          exact ⟨rfl, F2.out⟩
  · by_cases h2 : d = -1
    · subst h2
      go_enter Tryz.func81, Tryz.ntmps81
      go_wp2
      go_returns
      exact ⟨rfl, F1.out _ (by omega) (by omega)⟩
    · have h2' : (d == -1) = false := beq_eq_false_iff_ne.2 h2
      clear h2
      by_cases h3 : now < d
      · go_enter Tryz.func81, Tryz.ntmps81
        go_wp2
        go_returns
        exact ⟨rfl, F1.out _ (by omega) (by omega)⟩
      · go_enter Tryz.func81, Tryz.ntmps81
        go_wp2
        go_returns
        exact ⟨rfl, F2.out⟩
end Go.Proofs.YtpfkeohaaeiaaaaGreatDoor.frm
/- Law 13: what a Tracker holds, in plain data. -/
namespace Go.Proofs.YtpfkeohaaeiaaaaGreatDoor.frm
open Go.RowKit Go.Sort
set_option maxRecDepth 100000
def zg (zs : List Int) (i : Nat) : Int := zs[i]?.getD 0
theorem zg_set (zs : List Int) (i j : Nat) (x : Int) (hi : i < zs.length) : zg (zs.set i x) j = if i = j then x else zg zs j := by
  unfold zg
  rw [List.getElem?_set]
  by_cases h : i = j
  · subst h
    simp [hi]
  · simp [h]
/-- n intervals in ascending order, all numbers in them below top; the largest number lg came at wh; few numbers came -/
structure TkOk (zs : List Int) (n : Nat) (top lg wh few : Int) : Prop where
  len : zs.length = 41
  many : zg zs 34 = (n : Int)
  le : n ≤ 16
  rg : ∀ k, k < n → 0 ≤ zg zs (k * 2) ∧ zg zs (k * 2) < zg zs (k * 2 + 1) ∧ zg zs (k * 2 + 1) ≤ top
  gap : ∀ j k, j < k → k < n → zg zs (j * 2 + 1) < zg zs (k * 2)
  size : ∀ m, n = m + 1 → 2 * (n : Int) ≤ zg zs (m * 2 + 1) + 1
  top0 : 0 ≤ top
  dl0 : 0 ≤ zg zs 35
  dl1 : zg zs 35 ≤ 20
  fl : zg zs 36 = 0
  lg : zg zs 37 = lg
  wh : zg zs 38 = wh
  c0 : 0 ≤ zg zs 39
  c1 : zg zs 39 ≤ few
  d0 : -1 ≤ zg zs 40
  d1 : zg zs 40 ≤ 4000000000000
/-- the number is in one of the intervals -/
def covB (zs : List Int) (n : Nat) (i : Int) : Bool := (List.range n).any (fun k => decide (zg zs (k * 2) ≤ i) && decide (i < zg zs (k * 2 + 1)))
theorem covB_iff {zs : List Int} {n : Nat} {i : Int} : covB zs n i = true ↔ ∃ k, k < n ∧ zg zs (k * 2) ≤ i ∧ i < zg zs (k * 2 + 1) := by
  unfold covB
  simp [List.any_eq_true, List.mem_range]
theorem hasB_cov (zs : List Int) (n : Nat) (i : Int) : hasB i (ivs zs n) = covB zs n i := by
  unfold hasB ivs covB
  rw [List.any_map]
  rfl
theorem TkOk.cov_lt {zs : List Int} {n : Nat} {top lg wh few : Int} (h : TkOk zs n top lg wh few) {i : Int} (hc : covB zs n i = true) : 0 ≤ i ∧ i < top := by
  obtain ⟨k, hk, h1, h2⟩ := covB_iff.1 hc
  have := h.rg k hk
  omega
theorem TkOk.not_cov {zs : List Int} {n : Nat} {top lg wh few : Int} (h : TkOk zs n top lg wh few) {i : Int} (hi : top ≤ i) : covB zs n i = false := by
  cases e : covB zs n i with
  | false => rfl
  | true => have := h.cov_lt e; omega
variable {zs : List Int} {n : Nat} {top lg wh few : Int}
/-- the other fields may turn -/
theorem TkOk.rest (h : TkOk zs n top lg wh few) (lg' wh' c d : Int) (hc0 : 0 ≤ c) (hc1 : c ≤ few + 1) (hd0 : -1 ≤ d) (hd1 : d ≤ 4000000000000) :
    TkOk ((((zs.set 37 lg').set 38 wh').set 39 c).set 40 d) n top lg' wh' (few + 1) ∧ ∀ i, covB ((((zs.set 37 lg').set 38 wh').set 39 c).set 40 d) n i = covB zs n i := by
  have hl := h.len
  have e : ∀ j, zg ((((zs.set 37 lg').set 38 wh').set 39 c).set 40 d) j = if 40 = j then d else if 39 = j then c else if 38 = j then wh' else if 37 = j then lg' else zg zs j := fun j => by
    rw [zg_set _ _ _ _ (by simp [hl]), zg_set _ _ _ _ (by simp [hl]), zg_set _ _ _ _ (by simp [hl]), zg_set _ _ _ _ (by simp [hl])]
  have e' : ∀ j, j < 37 → zg ((((zs.set 37 lg').set 38 wh').set 39 c).set 40 d) j = zg zs j := fun j hj => by
    rw [e, if_neg (by omega), if_neg (by omega), if_neg (by omega), if_neg (by omega)]
  have hn := h.le
  refine ⟨⟨by simp [hl], by rw [e' _ (by omega)]; exact h.many, hn, fun k hk => ?_, fun j k hj hk => ?_, fun m hm => by rw [e' _ (by omega)]; exact h.size m hm, h.top0, by rw [e' _ (by omega)]; exact h.dl0, by rw [e' _ (by omega)]; exact h.dl1, by rw [e' _ (by omega)]; exact h.fl,
    by rw [e]; rfl, by rw [e]; rfl, by rw [e]; exact hc0, by rw [e]; exact hc1, by rw [e]; exact hd0, by rw [e]; exact hd1⟩, fun i => ?_⟩
  · rw [e' _ (by omega), e' _ (by omega)]; exact h.rg k hk
  · rw [e' _ (by omega), e' _ (by omega)]; exact h.gap j k hj hk
  · rw [Bool.eq_iff_iff, covB_iff, covB_iff]
    constructor
    · rintro ⟨k, hk, h1, h2⟩
      rw [e' _ (by omega)] at h1 h2
      exact ⟨k, hk, h1, h2⟩
    · rintro ⟨k, hk, h1, h2⟩
      refine ⟨k, hk, ?_, ?_⟩ <;> rw [e' _ (by omega)] <;> assumption
/-- the last interval made longer -/
theorem TkOk.longer {m : Nat} (h : TkOk zs (m + 1) top lg wh few) (pn : Int) (he : zg zs (m * 2 + 1) = pn) (ht : top ≤ pn) :
    TkOk (zs.set (m * 2 + 1) (pn + 1)) (m + 1) (pn + 1) lg wh few ∧ ∀ i, covB (zs.set (m * 2 + 1) (pn + 1)) (m + 1) i = (covB zs (m + 1) i || decide (i = pn)) := by
  have hl := h.len
  have hn := h.le
  have e : ∀ j, zg (zs.set (m * 2 + 1) (pn + 1)) j = if m * 2 + 1 = j then pn + 1 else zg zs j := fun j => zg_set _ _ _ _ (by omega)
  have e' : ∀ j, 34 ≤ j → zg (zs.set (m * 2 + 1) (pn + 1)) j = zg zs j := fun j hj => by rw [e, if_neg (by omega)]
  have hm := h.rg m (by omega)
  have ht0 := h.top0
  have hsz := h.size m rfl
  have ef : ∀ k, zg (zs.set (m * 2 + 1) (pn + 1)) (k * 2) = zg zs (k * 2) := fun k => by rw [e, if_neg (by omega)]
  have et : ∀ k, zg (zs.set (m * 2 + 1) (pn + 1)) (k * 2 + 1) = if k = m then pn + 1 else zg zs (k * 2 + 1) := fun k => by
    rw [e]
    by_cases hk : k = m
    · rw [if_pos hk, if_pos (by omega)]
    · rw [if_neg hk, if_neg (by omega)]
  refine ⟨⟨by simp [hl], by rw [e' _ (by omega)]; exact h.many, hn, fun k hk => ?_, fun j k hj hk => ?_, fun m' hm' => by rw [et, if_pos (by omega)]; omega, by omega, by rw [e' _ (by omega)]; exact h.dl0, by rw [e' _ (by omega)]; exact h.dl1, by rw [e' _ (by omega)]; exact h.fl,
    by rw [e' _ (by omega)]; exact h.lg, by rw [e' _ (by omega)]; exact h.wh, by rw [e' _ (by omega)]; exact h.c0, by rw [e' _ (by omega)]; exact h.c1, by rw [e' _ (by omega)]; exact h.d0, by rw [e' _ (by omega)]; exact h.d1⟩, fun i => ?_⟩
  · rw [ef, et]
    have := h.rg k hk
    by_cases hk2 : k = m
    · subst hk2; rw [if_pos rfl]; omega
    · rw [if_neg hk2]; omega
  · rw [ef, et, if_neg (by omega)]
    exact h.gap j k hj hk
  · rw [Bool.eq_iff_iff, Bool.or_eq_true, covB_iff, covB_iff, decide_eq_true_eq]
    constructor
    · rintro ⟨k, hk, h1, h2⟩
      rw [ef] at h1
      rw [et] at h2
      by_cases hk2 : k = m
      · subst hk2
        rw [if_pos rfl] at h2
        by_cases hi : i = pn
        · exact .inr hi
        · exact .inl ⟨k, hk, h1, by omega⟩
      · rw [if_neg hk2] at h2
        exact .inl ⟨k, hk, h1, h2⟩
    · rintro (⟨k, hk, h1, h2⟩ | rfl)
      · refine ⟨k, hk, by rw [ef]; exact h1, ?_⟩
        rw [et]
        by_cases hk2 : k = m
        · subst hk2; rw [if_pos rfl]; omega
        · rw [if_neg hk2]; exact h2
      · refine ⟨m, by omega, by rw [ef]; omega, by rw [et, if_pos rfl]; omega⟩
/-- a new interval -/
theorem TkOk.more (h : TkOk zs n top lg wh few) (pn : Int) (hp : 0 ≤ pn) (ht : top ≤ pn) (hl2 : ∀ k, k < n → zg zs (k * 2 + 1) < pn) (hn16 : n < 16) :
    TkOk (((zs.set (n * 2) pn).set (n * 2 + 1) (pn + 1)).set 34 ((n : Int) + 1)) (n + 1) (pn + 1) lg wh few ∧ ∀ i, covB (((zs.set (n * 2) pn).set (n * 2 + 1) (pn + 1)).set 34 ((n : Int) + 1)) (n + 1) i = (covB zs n i || decide (i = pn)) := by
  have hl := h.len
  have e : ∀ j, zg (((zs.set (n * 2) pn).set (n * 2 + 1) (pn + 1)).set 34 ((n : Int) + 1)) j = if 34 = j then (n : Int) + 1 else if n * 2 + 1 = j then pn + 1 else if n * 2 = j then pn else zg zs j := fun j => by
    rw [zg_set _ _ _ _ (by simp [hl]), zg_set _ _ _ _ (by simp [hl]; omega), zg_set _ _ _ _ (by omega)]
  have e' : ∀ j, 35 ≤ j → zg (((zs.set (n * 2) pn).set (n * 2 + 1) (pn + 1)).set 34 ((n : Int) + 1)) j = zg zs j := fun j hj => by rw [e, if_neg (by omega), if_neg (by omega), if_neg (by omega)]
  have ef : ∀ k, k ≤ n → zg (((zs.set (n * 2) pn).set (n * 2 + 1) (pn + 1)).set 34 ((n : Int) + 1)) (k * 2) = if k = n then pn else zg zs (k * 2) := fun k hk => by
    rw [e, if_neg (by omega), if_neg (by omega)]
    by_cases h2 : k = n
    · rw [if_pos h2, if_pos (by omega)]
    · rw [if_neg h2, if_neg (by omega)]
  have et : ∀ k, k ≤ n → zg (((zs.set (n * 2) pn).set (n * 2 + 1) (pn + 1)).set 34 ((n : Int) + 1)) (k * 2 + 1) = if k = n then pn + 1 else zg zs (k * 2 + 1) := fun k hk => by
    rw [e, if_neg (by omega)]
    by_cases h2 : k = n
    · rw [if_pos h2, if_pos (by omega)]
    · rw [if_neg h2, if_neg (by omega), if_neg (by omega)]
  have ht0 := h.top0
  have hsz2 : 2 * (n : Int) ≤ pn := by
    rcases Nat.eq_zero_or_pos n with h0 | h0
    · omega
    · have h1 := h.size (n - 1) (by omega)
      have h2 := hl2 (n - 1) (by omega)
      omega
  refine ⟨⟨by simp [hl], by rw [e]; simp, by omega, fun k hk => ?_, fun j k hj hk => ?_, fun m' hm' => by rw [et m' (by omega), if_pos (by omega)]; push_cast; omega, by omega, by rw [e' _ (by omega)]; exact h.dl0, by rw [e' _ (by omega)]; exact h.dl1, by rw [e' _ (by omega)]; exact h.fl,
    by rw [e' _ (by omega)]; exact h.lg, by rw [e' _ (by omega)]; exact h.wh, by rw [e' _ (by omega)]; exact h.c0, by rw [e' _ (by omega)]; exact h.c1, by rw [e' _ (by omega)]; exact h.d0, by rw [e' _ (by omega)]; exact h.d1⟩, fun i => ?_⟩
  · rw [ef k (by omega), et k (by omega)]
    by_cases hk2 : k = n
    · rw [if_pos hk2, if_pos hk2]; omega
    · rw [if_neg hk2, if_neg hk2]
      have := h.rg k (by omega)
      omega
  · rw [ef k (by omega), et j (by omega), if_neg (by omega)]
    by_cases hk2 : k = n
    · rw [if_pos hk2]; exact hl2 j (by omega)
    · rw [if_neg hk2]; exact h.gap j k hj (by omega)
  · rw [Bool.eq_iff_iff, Bool.or_eq_true, covB_iff, covB_iff, decide_eq_true_eq]
    constructor
    · rintro ⟨k, hk, h1, h2⟩
      rw [ef k (by omega)] at h1
      rw [et k (by omega)] at h2
      by_cases hk2 : k = n
      · rw [if_pos hk2] at h1 h2
        exact .inr (by omega)
      · rw [if_neg hk2] at h1 h2
        exact .inl ⟨k, by omega, h1, h2⟩
    · rintro (⟨k, hk, h1, h2⟩ | rfl)
      · exact ⟨k, by omega, by rw [ef k (by omega), if_neg (by omega)]; exact h1, by rw [et k (by omega), if_neg (by omega)]; exact h2⟩
      · exact ⟨n, by omega, by rw [ef n (by omega), if_pos rfl]; omega, by rw [et n (by omega), if_pos rfl]; omega⟩
end Go.Proofs.YtpfkeohaaeiaaaaGreatDoor.frm
/- Law 13: Receive (numbers in order) and New of a Tracker. -/
namespace Go.Proofs.YtpfkeohaaeiaaaaGreatDoor.frm
open Go.RowKit Go.Sort
set_option maxRecDepth 100000
variable {zs : List Int} {n : Nat} {top lg wh few : Int}
/-- the intervals with one number more -/
def AddOk (zs : List Int) (n t : Nat) (pn lg wh few : Int) (w w' : World) : Prop :=
  ∃ zs' n', TkAt w' t zs' ∧ TkOk zs' n' (pn + 1) lg wh few ∧ (∀ i, covB zs' n' i = (covB zs n i || decide (i = pn))) ∧ Tu t t w w'
theorem add_any (t : Nat) (pn : Int) (w : World) (hT : TkAt w t zs) (ok : TkOk zs n top lg wh few) (hp : top ≤ pn) (hp2 : pn < 31) : Calls Tryz.prog 79 #[.pointer (some ⟨t, 0, none⟩), .int .i64 pn] w fun e w' => e = .returned (.tuple #[]) ∧ AddOk zs n t pn lg wh few w w' := by
  have ht0 := ok.top0
  rcases Nat.eq_zero_or_pos n with h0 | h0
  · subst h0
    refine (add_new t 0 zs pn w hT (by decide) ok.many (fun k hk => by omega) (by omega) (by omega)).mono ?_
    rintro e w' ⟨rfl, h1, h2⟩
    obtain ⟨k1, k2⟩ := ok.more pn (by omega) hp (fun k hk => by omega) (by decide)
    exact ⟨rfl, _, _, h1, k1, k2, h2⟩
  · obtain ⟨m, rfl⟩ : ∃ m, n = m + 1 := ⟨n - 1, by omega⟩
    have hm := ok.rg m (by omega)
    by_cases he : zg zs (m * 2 + 1) = pn
    · refine (add_end t m zs pn w hT (by have := ok.le; omega) ok.many (fun k hk => ?_) he (by omega) (by omega)).mono ?_
      · have := ok.gap k m hk (by omega)
        show zg zs _ < pn
        omega
      · rintro e w' ⟨rfl, h1, h2⟩
        obtain ⟨k1, k2⟩ := ok.longer pn he hp
        exact ⟨rfl, _, _, h1, k1, k2, h2⟩
    · have hall : ∀ k, k < m + 1 → zg zs (k * 2 + 1) < pn := fun k hk => by
        by_cases h2 : k = m
        · subst h2; omega
        · have := ok.gap k m (by omega) (by omega); omega
      have hsz := ok.size m rfl
      have hl1 := hall m (by omega)
      refine (add_new t (m + 1) zs pn w hT (by omega) ok.many hall (by omega) (by omega)).mono ?_
      rintro e w' ⟨rfl, h1, h2⟩
      obtain ⟨k1, k2⟩ := ok.more pn (by omega) hp hall (by omega)
      exact ⟨rfl, _, _, h1, k1, k2, h2⟩
theorem TkAt.zg {w : World} {t : Nat} (h : TkAt w t zs) (i : Nat) (hi : i < 41) {x : Int} (hx : zg zs i = x) : w.cell? ⟨t, i, none⟩ = some (.int .i64 x) := by
  rw [← hx]; exact h.cell i hi
/-- what Receive does -/
def RecvOk (zs : List Int) (n t : Nat) (pn now few : Int) (w : World) (e : Ending) (w' : World) : Prop :=
  e = .returned (.int .i64 0) ∧ AddOk zs n t pn pn now (few + 1) w w'
theorem rest_add {t : Nat} {pn now few : Int} {w w2 w' : World} {zs2 : List Int} {n2 : Nat} {lg wh : Int} (hcov : ∀ i, covB zs2 n2 i = (covB zs n i || decide (i = pn))) (ok2 : TkOk zs2 n2 (pn + 1) lg wh few) (ht2 : Tu t t w w2) (ht3 : Tu t t w2 w')
    (c d : Int) (hT : TkAt w' t ((((zs2.set 37 pn).set 38 now).set 39 c).set 40 d)) (hc0 : 0 ≤ c) (hc1 : c ≤ zg zs2 39 + 1) (hd0 : -1 ≤ d) (hd1 : d ≤ 4000000000000) : AddOk zs n t pn pn now (few + 1) w w' := by
  obtain ⟨k1, k2⟩ := ok2.rest pn now c d hc0 (by have := ok2.c1; omega) hd0 hd1
  exact ⟨_, _, hT, k1, fun i => (k2 i).trans (hcov i), ht2.trans ht3⟩
set_option maxRecDepth 100000 in
set_option maxHeartbeats 4000000 in
theorem recv_any (t : Nat) (now pn : Int) (w : World) (hT : TkAt w t zs) (ok : TkOk zs n top lg wh few) (hp : top ≤ pn) (hp2 : pn < 31) (hlg0 : -1 ≤ lg) (hlg : lg < pn) (hn1 : 0 ≤ now) (hn2 : now ≤ 1099511627776) (hfew : few ≤ 1000000000) :
    Calls Tryz.prog 57 #[.pointer (some ⟨t, 0, none⟩), .int .i64 now, .int .i64 pn, .bool true] w (RecvOk zs n t pn now few w) := by
  have ht0 := ok.top0
  have P58 := Lib.hid (has_any t n zs pn w hT (by have := ok.le; omega) ok.many)
  have HF := Lib.hid (show hasB pn (ivs zs n) = false from (hasB_cov zs n pn).trans (ok.not_cov hp))
  have y36 := hT.zg 36 (by decide) ok.fl
  have H0 := Lib.hid (And.intro hT ok)
  clear hT ok
  have a1 : (now < 0) = False := eq_false (by omega)
  have a2 : (1099511627776 < now) = False := eq_false (by omega)
  have a3 : (pn < 0) = False := eq_false (by omega)
  have a4 : (281474976710655 < pn) = False := eq_false (by omega)
  go_enter Tryz.func57, Tryz.ntmps57
  go_wp2_with fail
  refine P58.out.mono ?_
  rintro e w1 ⟨rfl, hb⟩
  rw [HF.out]
  have T1 := Lib.hid (And.intro (H0.out.1.block (hb.block t H0.out.1.lt)) hb)
  clear hb y36
  go_wp2_with fail
  refine (add_any t pn w1 T1.out.1 H0.out.2 hp hp2).mono ?_
  rintro e w2 ⟨rfl, zs2, n2, T2, ok2, hcov, ht2⟩
  have y34 := T2.zg 34 (by decide) ok2.many
  have y37 := T2.zg 37 (by decide) ok2.lg
  have z37 := T2.frozen 37
  have z38 := T2.frozen 38
  have y38 := T2.zg 38 (by decide) ok2.wh
  have hn16 := ok2.le
  have a5 : (16 < (n2 : Int)) = False := eq_false (by omega)
  have H2 := Lib.hid (And.intro T2 (And.intro ok2 (And.intro hcov ((Tu.below T1.out.2).trans ht2))))
  clear T2 ok2 hcov ht2 T1 H0 P58 HF
  have ST : ∀ od, Hid (Calls Tryz.prog 81 #[.pointer (some ⟨t, 0, none⟩), .int .i64 now, .bool od] ((w2.setCell ⟨t, 37, none⟩ (.int .i64 pn)).setCell ⟨t, 38, none⟩ (.int .i64 now)) fun e w' => e = .returned (.tuple #[]) ∧ AddOk zs n t pn pn now (few + 1) w w') := fun od => by
    obtain ⟨T2, ok2, hcov, ht2⟩ := H2.out
    have e : ∀ j, 39 ≤ j ∨ j = 35 → ((zs2.set 37 pn).set 38 now)[j]?.getD (0:Int) = zg zs2 j := fun j hj => by
      show zg _ j = _
      rw [zg_set _ _ _ _ (by simp [ok2.len]), zg_set _ _ _ _ (by simp [ok2.len]), if_neg (by omega), if_neg (by omega)]
    refine Lib.hid ((sched_any t ((zs2.set 37 pn).set 38 now) now od _ ((T2.set 37 pn).set 38 now) _ (e 35 (.inr rfl)) ok2.dl0 ok2.dl1 _ (e 39 (.inl (by decide))) ok2.c0 (by have := ok2.c1; omega) _ (e 40 (.inl (by decide))) ok2.d0 ok2.d1 hn1 hn2).mono ?_)
    rintro e1 w' ⟨rfl, c, d, h1, h2, h3, h4, h5, h6⟩
    rw [e 39 (.inl (by decide))] at h3
    exact ⟨rfl, rest_add hcov ok2 ht2 (((Tu.set _ _ _).trans (Tu.set _ _ _)).trans h6) c d h1 h2 h3 h4 h5⟩
  by_cases hl : lg = -1
  · subst hl
    have ST := (ST true)
    go_wp2_with fail
    refine ST.out.mono ?_
    rintro e w3 ⟨rfl, h⟩
    have H3 := Lib.hid h
    clear h ST
    go_wp2
    go_ret
    exact ⟨rfl, H3.out⟩
  · have hl' : (lg == -1) = false := beq_eq_false_iff_ne.2 hl
    clear hl
    by_cases hq : pn = lg + 1
    · have hq' : (pn == lg + 1) = true := by rw [hq]; simp
      have ST := (ST true)
      clear hq
      go_wp2_with fail
      refine ST.out.mono ?_
      rintro e w3 ⟨rfl, h⟩
      have H3 := Lib.hid h
      clear h ST
      go_wp2
      go_ret
      exact ⟨rfl, H3.out⟩
    · have hq' : (pn == lg + 1) = false := beq_eq_false_iff_ne.2 hq
      have ST := (ST false)
      clear hq
      go_wp2_with fail
      refine ST.out.mono ?_
      rintro e w3 ⟨rfl, h⟩
      have H3 := Lib.hid h
      clear h ST
      go_wp2
      go_ret
      exact ⟨rfl, H3.out⟩
/-- a new Tracker -/
def zs0 (dl : Int) : List Int := (List.replicate 35 0) ++ [dl, 0, -1, 0, 0, -1]
theorem zs0_ok (dl : Int) (h0 : 0 ≤ dl) (h1 : dl ≤ 20) : TkOk (zs0 dl) 0 0 (-1) 0 0 := by
  refine ⟨rfl, rfl, by decide, fun k hk => by omega, fun j k _ hk => by omega, fun m hm => by omega, by decide, h0, h1, rfl, rfl, rfl, (show (0:Int) ≤ 0 by decide), (show (0:Int) ≤ 0 by decide), (show (-1:Int) ≤ -1 by decide), (show (-1:Int) ≤ 4000000000000 by decide)⟩
set_option maxRecDepth 100000 in
set_option maxHeartbeats 4000000 in
theorem new_tr (dl : Int) (h0 : 0 ≤ dl) (h1 : dl ≤ 20) (w : World) : Calls Tryz.prog 29 #[.int .i64 dl] w fun e w' => e = .returned (.tuple #[.pointer (some ⟨w.heap.size, 0, none⟩), .int .i64 0]) ∧ w' = w.alloc (.cells ((zs0 dl).map (Value.int .i64)).toArray 108) := by
  have a1 : (dl < 0) = False := eq_false (by omega)
  have a2 : (20 < dl) = False := eq_false (by omega)
  go_enter Tryz.func29, Tryz.ntmps29
  go_wp2
  go_ret2
  exact ⟨rfl, rfl⟩
end Go.Proofs.YtpfkeohaaeiaaaaGreatDoor.frm
/- Law 13: add of a Tracker, where the number lies below the last interval; remove of the last interval. -/
namespace Go.Proofs.YtpfkeohaaeiaaaaGreatDoor.frm
open Go.RowKit Go.Sort
set_option maxRecDepth 100000
set_option maxRecDepth 100000 in
set_option maxHeartbeats 4000000 in
/-- the last interval begins just behind the number: it is made longer to the front -/
theorem add_front (t m : Nat) (zs : List Int) (pn : Int) (w : World) (hT : TkAt w t zs) (hm : m ≤ 15) (hz : zs[34]?.getD (0:Int) = ((m + 1 : Nat):Int)) (hl : ∀ k, k < m → zs[k * 2 + 1]?.getD 0 < pn) (hf : zs[m * 2]?.getD 0 = pn + 1) (he : pn < zs[m * 2 + 1]?.getD 0) (h0 : 0 ≤ pn) (h1 : pn ≤ 281474976710656) :
    Calls Tryz.prog 79 #[.pointer (some ⟨t, 0, none⟩), .int .i64 pn] w (AddPost (zs.set (m * 2) pn) t w) := by
  have P := Lib.hid (place_any t (m + 1) zs pn w hT (by omega) hz)
  have HT := Lib.hid (And.intro hT (And.intro hz (And.intro hl (And.intro hf he))))
  clear hT hz hl he hf
  go_enter Tryz.func79, Tryz.ntmps79
  go_wp2_with fail
  refine P.out.mono ?_
  rintro e w1 ⟨k, hk, rfl, hlow, hat, hb⟩
  have ek : k = m := by
    rcases Nat.lt_trichotomy k m with h | h | h
    · have := hat (by omega); have := HT.out.2.2.1 k h; omega
    · exact h
    · have := lowB_at hlow m h; have := HT.out.2.2.2.2; omega
  subst ek
  have T1 := HT.out.1.block (hb.block t HT.out.1.lt)
  have y34 := T1.cell 34 (by decide)
  have y0 := T1.cell (k * 2) (by omega)
  have y1 := T1.cell (k * 2 + 1) (by omega)
  have z0 := T1.frozen (k * 2)
  rw [HT.out.2.1] at y34
  rw [HT.out.2.2.2.1] at y0
  have he := HT.out.2.2.2.2
  generalize zs[k * 2 + 1]?.getD 0 = q at *
  have HB := Lib.hid (And.intro T1 hb)
  have i1 : (0 : Int) ≤ (k : Int) := by omega
  have i2 : (k : Int) < ((k + 1 : Nat) : Int) := by omega
  have i5 : (k : Int) < 17 := by omega
  have i6 : (q == pn) = false := beq_eq_false_iff_ne.2 (by omega)
  have i7 : IntKind.i64.wrap (pn + 1) = pn + 1 := IntWalk.i64_in _ (by omega)
  have i8 : IntKind.i64.wrap (pn + 1 - 1) = pn := by rw [IntWalk.i64_in _ (by omega)]; omega
  clear hlow hat hb T1 he
  go_wp2
  go_still_tail 12, (by kernel_rfl)
  have T2 : TkAt ((w1.setCell ⟨t, k * 2, none⟩ (.int .i64 pn)).drew) t (zs.set (k * 2) pn) := HB.out.1.set _ _
  have H2 := Lib.hid (And.intro T2 (show Tu t t w ((w1.setCell ⟨t, k * 2, none⟩ (.int .i64 pn)).drew) from ((Tu.below HB.out.2).trans (Tu.set _ _ _)).drew))
  clear T2
  go_wp2
  go_returns
  exact ⟨rfl, H2.out.1, H2.out.2⟩
theorem slice_tail (t k n : Nat) (w : World) (hk : k ≤ 16) (hn : n ≤ 17) (hkn : k ≤ n) : (Instr.sliceAt 104 (.pointer (some ⟨t, 0, none⟩)) (some (.int .i64 k)) (some (.int .i64 n)) none).run Tryz.prog w = .ok (.slice (some ⟨t, k * 2, none⟩) (n - k) (17 - k)) w := by
  have i6 : (k : Int) ≤ (n : Int) := by omega
  have i7 : ¬ 17 = k := by omega
  have i8 : (n : Int) ≤ 17 := by omega
  simp [go_sem, i6, i7, i8]
set_option maxRecDepth 100000 in
set_option maxHeartbeats 4000000 in
/-- the last interval is removed -/
theorem remove_last (t m : Nat) (zs : List Int) (w : World) (hT : TkAt w t zs) (hm : m ≤ 15) (hz : zs[34]?.getD (0:Int) = ((m + 1 : Nat):Int)) :
    Calls Tryz.prog 80 #[.pointer (some ⟨t, 0, none⟩), .int .i64 m] w (AddPost (zs.set 34 (m : Int)) t w) := by
  have HT := Lib.hid (And.intro hT hz)
  have y34 := hT.cell 34 (by decide)
  rw [hz, Int.natCast_succ] at y34
  clear hT hz
  have i1 : (0 : Int) ≤ (m : Int) := by omega
  have i2 : (m : Int) ≤ 17 := by omega
  have i3 : IntKind.i64.wrap ((m : Int) + 1) = (m : Int) + 1 := IntWalk.i64_in _ (by omega)
  have hsl : ∀ w, (Instr.sliceAt 104 (.pointer (some ⟨t, 0, none⟩)) (some (.int .i64 ((m : Int) + 1))) (some (.int .i64 ((m : Int) + 1))) none).run Tryz.prog w = .ok (.slice (some ⟨t, (m + 1) * 2, none⟩) 0 (17 - (m + 1))) w := fun w => by
    have := slice_tail t (m + 1) (m + 1) w (by omega) (by omega) (by omega)
    rwa [Nat.sub_self, Int.natCast_succ] at this
  obtain ⟨dp, dn, hsl2⟩ : ∃ dp n, ∀ w, (Instr.sliceAt 104 (.pointer (some ⟨t, 0, none⟩)) (some (.int .i64 (m : Int))) none none).run Tryz.prog w = .ok (.slice dp n n) w := ⟨_, _, fun w => by simp [go_sem, i2, i1]; exact ⟨rfl, rfl⟩⟩
  go_enter Tryz.func80, Tryz.ntmps80
  go_wp2_with fail
  go_still_tail 15, (by kernel_rfl)
  refine wpList_copy_noneS rfl (.tmp 8) (.tmp 18) 54 54 rfl 103 Tryz.underlying54 (by kernel_rfl) dp (some ⟨t, (m + 1) * 2, none⟩) dn dn 0 (16 - m) rfl rfl (by simp) ?_
  have T2 : TkAt w t zs := HT.out.1
  have H2 := Lib.hid (And.intro (show TkAt w.drew t zs from T2) (show Tu t t w w.drew from (Tu.refl _ _ _).drew))
  have z34 := T2.frozen 34
  have i4 : IntKind.i64.wrap ((m : Int) + 1 - 1) = (m : Int) := by rw [IntWalk.i64_in _ (by omega)]; omega
  clear T2 hsl hsl2
  go_wp2
  go_returns
  exact ⟨rfl, H2.out.1.set _ _, H2.out.2.trans (Tu.set _ _ _)⟩
set_option maxRecDepth 100000 in
set_option maxHeartbeats 4000000 in
/-- the number fills the gap between the last two intervals -/
theorem add_merge (t m : Nat) (zs : List Int) (pn q : Int) (w : World) (hT : TkAt w t zs) (hm : m ≤ 14) (hz : zs[34]?.getD (0:Int) = ((m + 2 : Nat):Int)) (hl : ∀ k, k < m → zs[k * 2 + 1]?.getD 0 < pn) (he : zs[m * 2 + 1]?.getD 0 = pn) (hf : zs[(m + 1) * 2]?.getD 0 = pn + 1) (hq : zs[(m + 1) * 2 + 1]?.getD 0 = q) (_hpq : pn < q) (h0 : 0 ≤ pn) (h1 : pn ≤ 281474976710656) :
    Calls Tryz.prog 79 #[.pointer (some ⟨t, 0, none⟩), .int .i64 pn] w (AddPost ((zs.set (m * 2 + 1) q).set 34 ((m : Int) + 1)) t w) := by
  have P := Lib.hid (place_any t (m + 2) zs pn w hT (by omega) hz)
  have HT := Lib.hid (And.intro hT (And.intro hz (And.intro hl (And.intro he (And.intro hf hq)))))
  clear hT hz hl he hf hq
  go_enter Tryz.func79, Tryz.ntmps79
  go_wp2_with fail
  refine P.out.mono ?_
  rintro e w1 ⟨k, hk, rfl, hlow, hat, hb⟩
  have ek : k = m := by
    rcases Nat.lt_trichotomy k m with h | h | h
    · have := hat (by omega); have := HT.out.2.2.1 k h; omega
    · exact h
    · have := lowB_at hlow m h; have := HT.out.2.2.2.1; omega
  subst ek
  have T1 := HT.out.1.block (hb.block t HT.out.1.lt)
  have y34 := T1.cell 34 (by decide)
  have y1 := T1.cell (k * 2 + 1) (by omega)
  have z1 := T1.frozen (k * 2 + 1)
  rw [HT.out.2.1] at y34
  rw [HT.out.2.2.2.1] at y1
  have HB := Lib.hid (And.intro T1 hb)
  have i1 : (0 : Int) ≤ (k : Int) := by omega
  have i2 : (k : Int) < ((k + 2 : Nat) : Int) := by omega
  clear hlow hat hb T1
  have i5 : (k : Int) < 17 := by omega
  go_wp2
  go_still_tail 12, (by kernel_rfl)
  have T2 : TkAt ((w1.setCell ⟨t, k * 2 + 1, none⟩ (.int .i64 (pn + 1))).drew) t (zs.set (k * 2 + 1) (pn + 1)) := HB.out.1.set _ _
  have y35 := T2.cell 34 (by decide)
  rw [List.getElem?_set_ne (by omega), HT.out.2.1, show ((k + 2 : Nat) : Int) = (k : Int) + 2 from rfl] at y35
  have y2 := T2.cell (k * 2 + 1) (by omega)
  rw [List.getElem?_set_self (by rw [HT.out.1.1]; omega), Option.getD_some] at y2
  have y3 := T2.cell ((k + 1) * 2) (by omega)
  rw [List.getElem?_set_ne (by omega), HT.out.2.2.2.2.1] at y3
  have y4 := T2.cell ((k + 1) * 2 + 1) (by omega)
  rw [List.getElem?_set_ne (by omega), HT.out.2.2.2.2.2] at y4
  have z2 := T2.frozen (k * 2 + 1)
  have H2 := Lib.hid (And.intro T2 (show Tu t t w ((w1.setCell ⟨t, k * 2 + 1, none⟩ (.int .i64 (pn + 1))).drew) from ((Tu.below HB.out.2).trans (Tu.set _ _ _)).drew))
  clear T2
  go_wp2
  clear y34 y1 z1 HB
  generalize (w1.setCell _ _).drew = W1 at *
  have i3 : decide ((k : Int) + 1 < (k : Int) + 2) = true := decide_eq_true (by omega)
  have i4 : IntKind.i64.wrap ((k : Int) + 1) = (k : Int) + 1 := IntWalk.i64_in _ (by omega)
  have i6 : (k : Int) + 1 < 17 := by omega
  have i7 : (0 : Int) ≤ (k : Int) + 1 := by omega
  have i8 : ((k : Int) + 1).toNat = k + 1 := by omega
  go_quiet (fail)
  go_wp2
  generalize hW2 : World.drewN _ _ = W2
  have K2 := Lib.hid (show TkAt W2 t (zs.set (k * 2 + 1) (pn + 1)) ∧ Tu t t w W2 from hW2 ▸ And.intro H2.out.1 (H2.out.2.drewN _))
  have x3 : W2.cell? ⟨t, (k + 1) * 2, none⟩ = some (.int .i64 (pn + 1)) := hW2 ▸ y3
  have x4 : W2.cell? ⟨t, (k + 1) * 2 + 1, none⟩ = some (.int .i64 q) := hW2 ▸ y4
  have x2 : W2.cell? ⟨t, k * 2 + 1, none⟩ = some (.int .i64 (pn + 1)) := hW2 ▸ y2
  have v2 : W2.frozen? ⟨t, k * 2 + 1, none⟩ = false := hW2 ▸ z2
  clear hW2 y2 y3 y4 y35 z2 H2
  go_still_tail 14, (by kernel_rfl)
  have T3 : TkAt ((W2.setCell ⟨t, k * 2 + 1, none⟩ (.int .i64 q)).drew) t (zs.set (k * 2 + 1) q) := by
    have := K2.out.1.set (k * 2 + 1) q
    rw [List.set_set] at this
    exact this
  have K3 := Lib.hid (And.intro T3 (show Tu t t w ((W2.setCell ⟨t, k * 2 + 1, none⟩ (.int .i64 q)).drew) from (K2.out.2.trans (Tu.set _ _ _)).drew))
  clear T3 x3 x4 K2
  go_wp2_with fail
  refine (remove_last t (k + 1) (zs.set (k * 2 + 1) q) _ K3.out.1 (by omega) (by rw [List.getElem?_set_ne (by omega)]; exact HT.out.2.1)).mono ?_
  rintro e w5 ⟨rfl, h1, h2⟩
  have H5 := Lib.hid (And.intro h1 (K3.out.2.trans h2))
  clear h1 h2 K3 x2 v2
  go_wp2
  go_returns
  exact ⟨rfl, H5.out.1, H5.out.2⟩
end Go.Proofs.YtpfkeohaaeiaaaaGreatDoor.frm
