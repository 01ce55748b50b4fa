/- Law 25: the cipher's parse. -/
import Derived.Test.YtieiplalnekmkaaK
import Derived.Laws.CopyOwn
import Derived.StillTailTactics
namespace Go.Proofs.Ytieiplalnekmkaa
open Go.RowKit
def ksOf (s : ByteArray) : Ks := ⟨wd s 0, wd s 4, wd s 8, wd s 12⟩
theorem ksOf_ok (s : ByteArray) : (ksOf s).ok := ⟨wd_range _ _, wd_range _ _, wd_range _ _, wd_range _ _⟩
theorem words_at (s : ByteArray) (n : Nat) (w : World) (h : 4 * n ≤ s.size) (hs : s.size ≤ maxLen) (hn : n ≤ 4) (hn0 : 0 < n) :
    Calls Try.prog 47 #[.string s, .int .i64 n] w fun e w' => ∃ g cap, e = .returned (.slice (some ⟨g, 0, none⟩) n cap) ∧ w.heap.size ≤ g ∧ n ≤ cap ∧ (∀ j, j < n → w'.cell? ⟨g, j, none⟩ = some (.int .u32 (wd s (4 * j)))) ∧ Below w.heap.size w w' := by
  refine (words_any s n w h hs hn hn0).mono ?_
  rintro e w' ⟨v, rfl, ho, hb⟩
  rcases ho.2 with ⟨_, h0⟩ | ⟨g, cap, cur, rfl, hbg, hg, hnc, hcm, hsz, htk⟩
  · omega
  · refine ⟨g, cap, rfl, hbg, hnc, fun j hj => ?_, hb⟩
    have := ho.cells (g := g) rfl j (.int .u32 (wd s (4 * j))) (by simp [wds, hj])
    rw [add_plain] at this
    simpa using this
theorem set_other {w : World} {b i k : Nat} {v : Value} {o : Obj} (hne : b ≠ k) (h : w.heap[k]? = some o) : (w.setCell ⟨b, i, none⟩ v).heap[k]? = some o := (heap_setCell_other w ⟨b, i, none⟩ k v (fun e => hne e.symm)).trans h
theorem info94s : (Try.prog.info? 94).map (·.size) = some 1 := by kernel_rfl
theorem copy4 (w : World) (b g cap : Nat) {f : Nat → Int} (hb : w.heap[b]? = some (.cells #[.int .u32 0, .int .u32 0, .int .u32 0, .int .u32 0] 96 (0, 0))) (hc : ∀ j, j < 4 → w.cell? ⟨g, j, none⟩ = some (.int .u32 (f j))) :
    (Builtin.copy_ #[105, 105] 3 #[.slice (some ⟨b, 0, none⟩) 4 4, .slice (some ⟨g, 0, none⟩) 4 cap]).run Try.prog w = .ok (.int .i64 4) (w.setRow b #[.int .u32 (f 0), .int .u32 (f 1), .int .u32 (f 2), .int .u32 (f 3)]) := by
  refine (run_copy_row (P := Try.prog) w 105 105 3 94 b 0 4 4 ⟨g, 0, none⟩ 4 cap _ 96 [.int .u32 (f 0), .int .u32 (f 1), .int .u32 (f 2), .int .u32 (f 3)] Try.underlying105 info94s hb rfl ?_ (by simp) (by simp [Value.oneCell'])).trans ?_
  · intro j v hv
    rw [add_plain, Nat.zero_add]
    match j, hv with
    | 0, hv => cases hv; exact hc 0 (by decide)
    | 1, hv => cases hv; exact hc 1 (by decide)
    | 2, hv => cases hv; exact hc 2 (by decide)
    | 3, hv => cases hv; exact hc 3 (by decide)
    | n + 4, hv => simp at hv
  · rfl
theorem out6 (w w3 : World) {a0 a1 a2 a3 b0 b1 : Value} (hB : Below w.heap.size w w3) (h0 : w3.heap[w.heap.size]? = some (.cells #[a0, a1, a2, a3] 96 (0, 0))) (h1 : w3.heap[w.heap.size + 1]? = some (.cells #[b0, b1] 98 (0, 0))) (a b c d x y : Int) :
    Below w.heap.size w (((((((w3.setCell ⟨w.heap.size, 0, none⟩ (.int .u32 a)).setCell ⟨w.heap.size, 1, none⟩ (.int .u32 b)).setCell ⟨w.heap.size, 2, none⟩ (.int .u32 c)).setCell ⟨w.heap.size, 3, none⟩ (.int .u32 d)).setCell ⟨w.heap.size + 1, 0, none⟩ (.int .u32 x)).setCell ⟨w.heap.size + 1, 1, none⟩ (.int .u32 y)).drew) ∧ (((((((w3.setCell ⟨w.heap.size, 0, none⟩ (.int .u32 a)).setCell ⟨w.heap.size, 1, none⟩ (.int .u32 b)).setCell ⟨w.heap.size, 2, none⟩ (.int .u32 c)).setCell ⟨w.heap.size, 3, none⟩ (.int .u32 d)).setCell ⟨w.heap.size + 1, 0, none⟩ (.int .u32 x)).setCell ⟨w.heap.size + 1, 1, none⟩ (.int .u32 y)).drew).heap[w.heap.size]? = some (.cells #[.int .u32 a, .int .u32 b, .int .u32 c, .int .u32 d] 96 (0, 0)) ∧ (((((((w3.setCell ⟨w.heap.size, 0, none⟩ (.int .u32 a)).setCell ⟨w.heap.size, 1, none⟩ (.int .u32 b)).setCell ⟨w.heap.size, 2, none⟩ (.int .u32 c)).setCell ⟨w.heap.size, 3, none⟩ (.int .u32 d)).setCell ⟨w.heap.size + 1, 0, none⟩ (.int .u32 x)).setCell ⟨w.heap.size + 1, 1, none⟩ (.int .u32 y)).drew).heap[w.heap.size + 1]? = some (.cells #[.int .u32 x, .int .u32 y] 98 (0, 0)) := by
  have l0 := Nat.le_refl w.heap.size
  have l1 := Nat.le_succ w.heap.size
  have n1 : w.heap.size + 1 ≠ w.heap.size := by omega
  have n2 : w.heap.size ≠ w.heap.size + 1 := by omega
  refine ⟨((((((hB.setCell (p := ⟨w.heap.size, 0, none⟩) l0 _).setCell (p := ⟨w.heap.size, 1, none⟩) l0 _).setCell (p := ⟨w.heap.size, 2, none⟩) l0 _).setCell (p := ⟨w.heap.size, 3, none⟩) l0 _).setCell (p := ⟨w.heap.size + 1, 0, none⟩) l1 _).setCell (p := ⟨w.heap.size + 1, 1, none⟩) l1 _).drew, ?_, ?_⟩
  · rw [heap_drew]
    exact set_other n1 (set_other n1 (heap_set _ (heap_set _ (heap_set _ (heap_set _ h0)))))
  · rw [heap_drew]
    exact heap_set _ (heap_set _ (set_other n2 (set_other n2 (set_other n2 (set_other n2 h1)))))
theorem hu105 : Try.prog.underlying 105 = some (.slice 94) := Try.underlying105
set_option maxRecDepth 100000 in
set_option maxHeartbeats 4000000 in
theorem parse_any (k b : ByteArray) (w : World) (hk : k.size = 16) (hb : b.size = 8) :
    Calls Try.prog 43 #[.string k, .string b] w fun e w' => e = .returned (.tuple #[(ksOf k).val, stv (wd b 0) (wd b 4), .bool true]) ∧ Below w.heap.size w w' := by
  have WK := Lib.hid (fun w => words_at k 4 w (by omega) (by unfold maxLen; omega) (by decide) (by decide))
  have WB := Lib.hid (fun w => words_at b 2 w (by omega) (by unfold maxLen; omega) (by decide) (by decide))
  have F := Lib.hid (box2 w (.cells #[.int .u32 0, .int .u32 0, .int .u32 0, .int .u32 0] 96) (.cells #[.int .u32 0, .int .u32 0] 98))
  unfold ksOf Ks.val stv
  go_enter Try.func43, Try.ntmps43
  go_wp2_with fail
  generalize ((w.alloc (Obj.cells #[.int .u32 0, .int .u32 0, .int .u32 0, .int .u32 0] 96)).alloc (Obj.cells #[.int .u32 0, .int .u32 0] 98)) = W at F ⊢
  have hP := F.out.1
  have hQ := F.out.2.1
  have hsz := F.out.2.2.2
  have CP := Lib.hid (fun w2 g cap (hb2 : Below W.drew.heap.size W.drew w2) (hcap : 4 ≤ cap) (hc : ∀ j, j < 4 → w2.cell? ⟨g, j, none⟩ = some (.int .u32 (wd k (4 * j)))) => copy4 w2 w.heap.size g cap (heap_below hb2 hP) hc)
  clear hP hQ hsz
  go_region_with ((go_at_call 47; refine (WK.out _).mono ?_; rintro e w2 ⟨g, cap, rfl, hg, hcap, hc, hb2⟩; have hcp := CP.out w2 g cap hb2 hcap hc; clear hc))
  have hlt : w.heap.size < w2.heap.size := heap_lt (heap_below hb2 F.out.1)
  have G : Hid ((w2.setRow w.heap.size #[.int .u32 (wd k 0), .int .u32 (wd k 4), .int .u32 (wd k 8), .int .u32 (wd k 12)]).heap[w.heap.size]? = some (.cells #[.int .u32 (wd k 0), .int .u32 (wd k 4), .int .u32 (wd k 8), .int .u32 (wd k 12)] 96 (0, 0)) ∧
      (w2.setRow w.heap.size #[.int .u32 (wd k 0), .int .u32 (wd k 4), .int .u32 (wd k 8), .int .u32 (wd k 12)]).heap[w.heap.size + 1]? = some (.cells #[.int .u32 0, .int .u32 0] 98) ∧
      Below w.heap.size w (w2.setRow w.heap.size #[.int .u32 (wd k 0), .int .u32 (wd k 4), .int .u32 (wd k 8), .int .u32 (wd k 12)])) :=
    Lib.hid ⟨setRow_heap _ _ _ _ _ _ (heap_below hb2 F.out.1), (setRow_other _ _ _ _ (by omega)).trans (heap_below hb2 F.out.2.1), below_setRow (F.out.2.2.1.drew.trans (hb2.mono (show w.heap.size ≤ W.heap.size by have := F.out.2.2.2; omega))) (Nat.le_refl _) _⟩
  clear hcp hb2 hlt hcap hg CP F WK
  generalize w2.setRow w.heap.size #[.int .u32 (wd k 0), .int .u32 (wd k 4), .int .u32 (wd k 8), .int .u32 (wd k 12)] = V at G ⊢
  clear w2 W
  go_wp2_with fail
  refine (WB.out _).mono ?_
  rintro e w3 ⟨h, cap2, rfl, hh, hcap2, hc, hb3⟩
  have d0 := hc 0 (by decide)
  have d1 := hc 1 (by decide)
  simp only [Nat.mul_zero, Nat.mul_one] at d0 d1
  have lh : V.heap.size ≤ h := hh
  have e0 := heap_below hb3 G.out.1
  have e1 := heap_below hb3 G.out.2.1
  have HB : Hid (Below w.heap.size w w3) := Lib.hid (btrans G.out.2.2 hb3)
  have n0 : w.heap.size ≠ h := by have := heap_lt G.out.1; omega
  have n1 : w.heap.size + 1 ≠ h := by have := heap_lt G.out.2.1; omega
  have i0 := (show (0 : Nat) < cap2 by omega)
  have i1 := (show (1 : Nat) < cap2 by omega)
  have k0 := at_whole e0 0 rfl
  have k1 := at_whole e0 1 rfl
  have k2 := at_whole e0 2 rfl
  have k3 := at_whole e0 3 rfl
  have r0 := at_whole e1 0 rfl
  have r1 := at_whole e1 1 rfl
  have fk0 := frozen_whole e0 0
  have fk1 := frozen_whole e0 1
  have fk2 := frozen_whole e0 2
  have fk3 := frozen_whole e0 3
  have fr0 := frozen_whole e1 0
  have fr1 := frozen_whole e1 1
  simp only [List.getElem_toArray, List.getElem_cons_zero, List.getElem_cons_succ] at k0 k1 k2 k3 r0 r1
  have E0 := Lib.hid e0
  have E1 := Lib.hid e1
  clear hc hb3 e0 e1 G hh WB hk hb
  go_wp2_with fail
  go_region
  go_wp2
  have hX := Lib.hid (out6 w w3 HB.out E0.out E1.out (wd k 0) (wd k 4) (wd k 8) (wd k 12) (wd b 0) (wd b 4))
  generalize ((((((w3.setCell ⟨w.heap.size, 0, none⟩ (.int .u32 (wd k 0))).setCell ⟨w.heap.size, 1, none⟩ (.int .u32 (wd k 4))).setCell ⟨w.heap.size, 2, none⟩ (.int .u32 (wd k 8))).setCell ⟨w.heap.size, 3, none⟩ (.int .u32 (wd k 12))).setCell ⟨w.heap.size + 1, 0, none⟩ (.int .u32 (wd b 0))).setCell ⟨w.heap.size + 1, 1, none⟩ (.int .u32 (wd b 4))).drew = X at hX ⊢
  have x0 := at_whole hX.out.2.1 0 rfl
  have x1 := at_whole hX.out.2.1 1 rfl
  have x2 := at_whole hX.out.2.1 2 rfl
  have x3 := at_whole hX.out.2.1 3 rfl
  have y0 := at_whole hX.out.2.2 0 rfl
  have y1 := at_whole hX.out.2.2 1 rfl
  simp only [List.getElem_toArray, List.getElem_cons_zero, List.getElem_cons_succ] at x0 x1 x2 x3 y0 y1
  refine bodyPost_ret (v := .tuple #[.agg #[.int .u32 (wd k 0), .int .u32 (wd k 4), .int .u32 (wd k 8), .int .u32 (wd k 12)], .agg #[.int .u32 (wd b 0), .int .u32 (wd b 4)], .bool true]) (by simp [results, Try.results43, go_sem, x0, x1, x2, x3, y0, y1]) rfl ⟨rfl, hX.out.1⟩
end Go.Proofs.Ytieiplalnekmkaa
